/-
  Layer 4: a command written.
-/
import Derived.Test.YthiliodmbipikaaGreatReqG
set_option linter.unusedVariables false
set_option linter.unusedSimpArgs false
namespace Go.Proofs.YthiliodmbipikaaGreat
open Go.RowKit
attribute [local go_sem] ByteArray.extract_mk ByteArray.mk_append_mk

theorem vtxt_le (s : List UInt8) : (vtxt s).length ≤ s.length + 10 := by have := vput_le s.length; unfold vtxt; rw [List.length_append]; omega
theorem na_w_name (k : Nat) (a : Addr) (w : World) : (nilAhead (k + 1) 84 (.pointer (some a)) "stagecoach/request.name").run Tryz.prog w = .ok (some false) w := by kernel_rfl
theorem me_w_name (k : Nat) (a : Addr) (w : World) : (method (k + 1) 84 (.pointer (some a)) "stagecoach/request.name").run Tryz.prog w = .ok (107, .pointer (some a)) w := by kernel_rfl
theorem na_w_number (k : Nat) (a : Addr) (w : World) : (nilAhead (k + 1) 84 (.pointer (some a)) "stagecoach/request.number").run Tryz.prog w = .ok (some false) w := by kernel_rfl
theorem me_w_number (k : Nat) (a : Addr) (w : World) : (method (k + 1) 84 (.pointer (some a)) "stagecoach/request.number").run Tryz.prog w = .ok (34, .pointer (some a)) w := by kernel_rfl
theorem na_w_flag (k : Nat) (a : Addr) (w : World) : (nilAhead (k + 1) 84 (.pointer (some a)) "stagecoach/request.flag").run Tryz.prog w = .ok (some false) w := by kernel_rfl
theorem me_w_flag (k : Nat) (a : Addr) (w : World) : (method (k + 1) 84 (.pointer (some a)) "stagecoach/request.flag").run Tryz.prog w = .ok (106, .pointer (some a)) w := by kernel_rfl
theorem na_w_batch (k : Nat) (a : Addr) (w : World) : (nilAhead (k + 1) 84 (.pointer (some a)) "stagecoach/request.batch").run Tryz.prog w = .ok (some false) w := by kernel_rfl
theorem me_w_batch (k : Nat) (a : Addr) (w : World) : (method (k + 1) 84 (.pointer (some a)) "stagecoach/request.batch").run Tryz.prog w = .ok (105, .pointer (some a)) w := by kernel_rfl
theorem na_w_names (k : Nat) (a : Addr) (w : World) : (nilAhead (k + 1) 84 (.pointer (some a)) "stagecoach/request.names").run Tryz.prog w = .ok (some false) w := by kernel_rfl
theorem me_w_names (k : Nat) (a : Addr) (w : World) : (method (k + 1) 84 (.pointer (some a)) "stagecoach/request.names").run Tryz.prog w = .ok (108, .pointer (some a)) w := by kernel_rfl
set_option maxHeartbeats 2000000 in
set_option maxRecDepth 100000 in
theorem w_part (B p q : Nat) (l : List UInt8) (w : World) (t : List UInt8) (n : Nat) (hp : Bld 90 B p l w) (hBw : B ≤ w.heap.size) (hq : q < B) (x1 : w.cell? ⟨q, 1, none⟩ = some (.string (S t))) (x2 : w.cell? ⟨q, 2, none⟩ = some (.int .i64 (n : Int))) (ht : t.length ≤ 1000) (hn : n ≤ 9223372036854775807) (hl : l.length ≤ 900000) :
    WCall 32 #[.iface 84 (.pointer (some ⟨p, 0, none⟩)), .pointer (some ⟨q, 1, none⟩)] w B p ((l ++ vtxt t) ++ vput n) := by
  refine WCall.intro fun R hR => ?_
  have BB0 : Hid (Below B w w) := Lib.hid (Below.refl _ _)
  have LB0 := Lib.hid hp
  have := vtxt_le t
  have n_name := na_w_name
  have m_name := me_w_name
  have n_number := na_w_number
  have m_number := me_w_number
  have n_flag := na_w_flag
  have m_flag := me_w_flag
  have n_batch := na_w_batch
  have m_batch := me_w_batch
  have n_names := na_w_names
  have m_names := me_w_names
  clear hp
  go_enter Tryz.func32, Tryz.ntmps32
  have cc1 := Lib.hid (w_name B p q 1 l w.drew t LB0.out (Nat.le_trans hBw BB0.out.size) x1 (by omega) (by omega))
  go_wp2_with fail
  go_region_with (go_at_call 107; refine cc1.out.use ?_; intro w1 l1 b1)
  have LB1 := Lib.hid l1
  have BB1 := Lib.hid (BB0.out.drew.trans b1)
  clear l1 b1
  have cc2 := Lib.hid (w_number B p q 2 (l ++ vtxt t) w1.drew n LB1.out (Nat.le_trans hBw BB1.out.size) ((BB1.out.cell (p := ⟨q, 2, none⟩) hq).trans x2) (by omega) (by rw [List.length_append]; omega))
  go_wp2_with fail
  go_region_with (go_at_call 34; refine cc2.out.use ?_; intro w2 l2 b2)
  have LB2 := Lib.hid l2
  have BB2 := Lib.hid (BB1.out.drew.trans b2)
  clear l2 b2
  go_wp2_with fail
  first | refine bodyPost_end (results_none rfl _ _ _) rfl ?_ | refine bodyPost_ret (results_none rfl _ _ _) rfl ?_
  exact hR.out _ LB2.out BB2.out
set_option maxHeartbeats 2000000 in
set_option maxRecDepth 100000 in
theorem w_member (B p q : Nat) (l : List UInt8) (w : World) (s t : List UInt8) (hp : Bld 90 B p l w) (hBw : B ≤ w.heap.size) (hq : q < B) (x9 : w.cell? ⟨q, 9, none⟩ = some (.string (S s))) (x10 : w.cell? ⟨q, 10, none⟩ = some (.string (S t))) (hs : s.length ≤ 1000) (ht : t.length ≤ 1000) (hl : l.length ≤ 900000) :
    WCall 33 #[.iface 84 (.pointer (some ⟨p, 0, none⟩)), .pointer (some ⟨q, 0, none⟩)] w B p ((l ++ vtxt s) ++ vtxt t) := by
  refine WCall.intro fun R hR => ?_
  have BB0 : Hid (Below B w w) := Lib.hid (Below.refl _ _)
  have LB0 := Lib.hid hp
  have := vtxt_le s
  have := vtxt_le t
  have n_name := na_w_name
  have m_name := me_w_name
  have n_number := na_w_number
  have m_number := me_w_number
  have n_flag := na_w_flag
  have m_flag := me_w_flag
  have n_batch := na_w_batch
  have m_batch := me_w_batch
  have n_names := na_w_names
  have m_names := me_w_names
  clear hp
  go_enter Tryz.func33, Tryz.ntmps33
  have cc1 := Lib.hid (w_name B p q 9 l w.drew s LB0.out (Nat.le_trans hBw BB0.out.size) x9 (by omega) (by omega))
  go_wp2_with fail
  go_region_with (go_at_call 107; refine cc1.out.use ?_; intro w1 l1 b1)
  have LB1 := Lib.hid l1
  have BB1 := Lib.hid (BB0.out.drew.trans b1)
  clear l1 b1
  have cc2 := Lib.hid (w_name B p q 10 (l ++ vtxt s) w1.drew t LB1.out (Nat.le_trans hBw BB1.out.size) ((BB1.out.cell (p := ⟨q, 10, none⟩) hq).trans x10) (by omega) (by rw [List.length_append]; omega))
  go_wp2_with fail
  go_region_with (go_at_call 107; refine cc2.out.use ?_; intro w2 l2 b2)
  have LB2 := Lib.hid l2
  have BB2 := Lib.hid (BB1.out.drew.trans b2)
  clear l2 b2
  go_wp2_with fail
  first | refine bodyPost_end (results_none rfl _ _ _) rfl ?_ | refine bodyPost_ret (results_none rfl _ _ _) rfl ?_
  exact hR.out _ LB2.out BB2.out
set_option maxHeartbeats 2000000 in
set_option maxRecDepth 100000 in
theorem w_visit0 (B p q : Nat) (l topic group mem : List UInt8) (pn n off gen : Nat) (bp be bq : Int) (robin : Bool) (rv tv : Value) (recs : List Rec) (tops : List (List UInt8)) (w : World) (hp : Bld 90 B p l w) (hBw : B ≤ w.heap.size) (hq : q < B)
    (hc : Blk w q #[.int .i64 0, .string (S topic), .int .i64 (pn : Int), .int .i64 (n : Int), .int .i64 (off : Int), .int .i64 bp, .int .i64 be, .int .i64 bq, rv, .string (S group), .string (S mem), .int .i64 (gen : Int), .bool robin, tv] 29)
    (ht : topic.length ≤ 1000) (hg : group.length ≤ 1000) (hm : mem.length ≤ 1000) (hpn : pn ≤ 9223372036854775807) (hn : n ≤ 9223372036854775807) (hoff : off ≤ 9223372036854775807) (hgen : gen ≤ 9223372036854775807)
    (hrv : Hid (∀ W, Below B w W → RecsIn W rv recs)) (hrb : RecsBd recs) (hrl : (rbatch bp be bq recs).1.length ≤ 100000) (htv : Hid (∀ W, Below B w W → TopsIn W tv tops)) (hto : ∀ s ∈ tops, s.length ≤ 1000000) (hnl : (vput tops.length ++ tops.flatMap vtxt).length ≤ 100000) (hl : l.length ≤ 1000) :
    WCall 13 #[.iface 84 (.pointer (some ⟨p, 0, none⟩)), .pointer (some ⟨q, 0, none⟩)] w B p ((l ++ vtxt topic) ++ vput n) := by
  refine WCall.intro fun R hR => ?_
  have BB0 : Hid (Below B w w) := Lib.hid (Below.refl _ _)
  have LB0 := Lib.hid hp
  have x0 := hc.cell 0
  have x1 := hc.cell 1
  have x2 := hc.cell 2
  have x3 := hc.cell 3
  have x4 := hc.cell 4
  have x5 := hc.cell 5
  have x6 := hc.cell 6
  have x7 := hc.cell 7
  have x8 := hc.cell 8
  have x9 := hc.cell 9
  have x10 := hc.cell 10
  have x11 := hc.cell 11
  have x12 := hc.cell 12
  have x13 := hc.cell 13
  simp only [List.getElem?_toArray, List.getElem?_cons_succ, List.getElem?_cons_zero] at x0 x1 x2 x3 x4 x5 x6 x7 x8 x9 x10 x11 x12 x13
  have kq0 := hc.lt
  have v1 := vtxt_le topic
  have v2 := vtxt_le group
  have v3 := vtxt_le mem
  have v4 := vput_le pn
  have v5 := vput_le n
  have v6 := vput_le off
  have v7 := vput_le gen
  obtain ⟨ra, rc, rfl⟩ := (hrv.out _ (Below.refl _ _)).form
  obtain ⟨ta, tc, rfl⟩ := (htv.out _ (Below.refl _ _)).form
  have n_name := na_w_name
  have m_name := me_w_name
  have n_number := na_w_number
  have m_number := me_w_number
  have n_flag := na_w_flag
  have m_flag := me_w_flag
  have n_batch := na_w_batch
  have m_batch := me_w_batch
  have n_names := na_w_names
  have m_names := me_w_names
  clear hp
  go_enter Tryz.func13, Tryz.ntmps13
  have cc1 := Lib.hid (w_name B p q 1 l w.drew topic LB0.out (Nat.le_trans hBw BB0.out.size) ((BB0.out.cell (p := ⟨q, 1, none⟩) hq).trans x1) (by omega) (by (try simp only [List.length_append]); omega))
  go_wp2_with fail
  go_region_with (go_at_call 107; refine cc1.out.use ?_; intro w1 l1 b1)
  have LB1 := Lib.hid l1
  have BB1 := Lib.hid (BB0.out.drew.trans b1)
  clear l1 b1
  have cc2 := Lib.hid (w_number B p q 3 (l ++ vtxt topic) w1.drew n LB1.out (Nat.le_trans hBw BB1.out.size) ((BB1.out.cell (p := ⟨q, 3, none⟩) hq).trans x3) hn (by (try simp only [List.length_append]); omega))
  go_wp2_with fail
  go_region_with (go_at_call 34; refine cc2.out.use ?_; intro w2 l2 b2)
  have LB2 := Lib.hid l2
  have BB2 := Lib.hid (BB1.out.drew.trans b2)
  clear l2 b2
  go_wp2_with fail
  first | refine bodyPost_end (results_none rfl _ _ _) rfl ?_ | refine bodyPost_ret (results_none rfl _ _ _) rfl ?_
  exact hR.out _ LB2.out BB2.out
set_option maxHeartbeats 2000000 in
set_option maxRecDepth 100000 in
theorem w_visit1 (B p q : Nat) (l topic group mem : List UInt8) (pn n off gen : Nat) (bp be bq : Int) (robin : Bool) (rv tv : Value) (recs : List Rec) (tops : List (List UInt8)) (w : World) (hp : Bld 90 B p l w) (hBw : B ≤ w.heap.size) (hq : q < B)
    (hc : Blk w q #[.int .i64 1, .string (S topic), .int .i64 (pn : Int), .int .i64 (n : Int), .int .i64 (off : Int), .int .i64 bp, .int .i64 be, .int .i64 bq, rv, .string (S group), .string (S mem), .int .i64 (gen : Int), .bool robin, tv] 29)
    (ht : topic.length ≤ 1000) (hg : group.length ≤ 1000) (hm : mem.length ≤ 1000) (hpn : pn ≤ 9223372036854775807) (hn : n ≤ 9223372036854775807) (hoff : off ≤ 9223372036854775807) (hgen : gen ≤ 9223372036854775807)
    (hrv : Hid (∀ W, Below B w W → RecsIn W rv recs)) (hrb : RecsBd recs) (hrl : (rbatch bp be bq recs).1.length ≤ 100000) (htv : Hid (∀ W, Below B w W → TopsIn W tv tops)) (hto : ∀ s ∈ tops, s.length ≤ 1000000) (hnl : (vput tops.length ++ tops.flatMap vtxt).length ≤ 100000) (hl : l.length ≤ 1000) :
    WCall 13 #[.iface 84 (.pointer (some ⟨p, 0, none⟩)), .pointer (some ⟨q, 0, none⟩)] w B p (l ++ vput n) := by
  refine WCall.intro fun R hR => ?_
  have BB0 : Hid (Below B w w) := Lib.hid (Below.refl _ _)
  have LB0 := Lib.hid hp
  have x0 := hc.cell 0
  have x1 := hc.cell 1
  have x2 := hc.cell 2
  have x3 := hc.cell 3
  have x4 := hc.cell 4
  have x5 := hc.cell 5
  have x6 := hc.cell 6
  have x7 := hc.cell 7
  have x8 := hc.cell 8
  have x9 := hc.cell 9
  have x10 := hc.cell 10
  have x11 := hc.cell 11
  have x12 := hc.cell 12
  have x13 := hc.cell 13
  simp only [List.getElem?_toArray, List.getElem?_cons_succ, List.getElem?_cons_zero] at x0 x1 x2 x3 x4 x5 x6 x7 x8 x9 x10 x11 x12 x13
  have kq0 := hc.lt
  have v1 := vtxt_le topic
  have v2 := vtxt_le group
  have v3 := vtxt_le mem
  have v4 := vput_le pn
  have v5 := vput_le n
  have v6 := vput_le off
  have v7 := vput_le gen
  obtain ⟨ra, rc, rfl⟩ := (hrv.out _ (Below.refl _ _)).form
  obtain ⟨ta, tc, rfl⟩ := (htv.out _ (Below.refl _ _)).form
  have n_name := na_w_name
  have m_name := me_w_name
  have n_number := na_w_number
  have m_number := me_w_number
  have n_flag := na_w_flag
  have m_flag := me_w_flag
  have n_batch := na_w_batch
  have m_batch := me_w_batch
  have n_names := na_w_names
  have m_names := me_w_names
  clear hp
  go_enter Tryz.func13, Tryz.ntmps13
  have cc1 := Lib.hid (w_number B p q 3 l w.drew n LB0.out (Nat.le_trans hBw BB0.out.size) ((BB0.out.cell (p := ⟨q, 3, none⟩) hq).trans x3) hn (by (try simp only [List.length_append]); omega))
  go_wp2_with fail
  go_region_with (go_at_call 34; refine cc1.out.use ?_; intro w1 l1 b1)
  have LB1 := Lib.hid l1
  have BB1 := Lib.hid (BB0.out.drew.trans b1)
  clear l1 b1
  go_wp2_with fail
  first | refine bodyPost_end (results_none rfl _ _ _) rfl ?_ | refine bodyPost_ret (results_none rfl _ _ _) rfl ?_
  exact hR.out _ LB1.out BB1.out
set_option maxHeartbeats 2000000 in
set_option maxRecDepth 100000 in
theorem w_visit2 (B p q : Nat) (l topic group mem : List UInt8) (pn n off gen : Nat) (bp be bq : Int) (robin : Bool) (rv tv : Value) (recs : List Rec) (tops : List (List UInt8)) (w : World) (hp : Bld 90 B p l w) (hBw : B ≤ w.heap.size) (hq : q < B)
    (hc : Blk w q #[.int .i64 2, .string (S topic), .int .i64 (pn : Int), .int .i64 (n : Int), .int .i64 (off : Int), .int .i64 bp, .int .i64 be, .int .i64 bq, rv, .string (S group), .string (S mem), .int .i64 (gen : Int), .bool robin, tv] 29)
    (ht : topic.length ≤ 1000) (hg : group.length ≤ 1000) (hm : mem.length ≤ 1000) (hpn : pn ≤ 9223372036854775807) (hn : n ≤ 9223372036854775807) (hoff : off ≤ 9223372036854775807) (hgen : gen ≤ 9223372036854775807)
    (hrv : Hid (∀ W, Below B w W → RecsIn W rv recs)) (hrb : RecsBd recs) (hrl : (rbatch bp be bq recs).1.length ≤ 100000) (htv : Hid (∀ W, Below B w W → TopsIn W tv tops)) (hto : ∀ s ∈ tops, s.length ≤ 1000000) (hnl : (vput tops.length ++ tops.flatMap vtxt).length ≤ 100000) (hl : l.length ≤ 1000) :
    WCall 13 #[.iface 84 (.pointer (some ⟨p, 0, none⟩)), .pointer (some ⟨q, 0, none⟩)] w B p (((l ++ vtxt topic) ++ vput pn) ++ (rbatch bp be bq recs).1) := by
  refine WCall.intro fun R hR => ?_
  have BB0 : Hid (Below B w w) := Lib.hid (Below.refl _ _)
  have LB0 := Lib.hid hp
  have x0 := hc.cell 0
  have x1 := hc.cell 1
  have x2 := hc.cell 2
  have x3 := hc.cell 3
  have x4 := hc.cell 4
  have x5 := hc.cell 5
  have x6 := hc.cell 6
  have x7 := hc.cell 7
  have x8 := hc.cell 8
  have x9 := hc.cell 9
  have x10 := hc.cell 10
  have x11 := hc.cell 11
  have x12 := hc.cell 12
  have x13 := hc.cell 13
  simp only [List.getElem?_toArray, List.getElem?_cons_succ, List.getElem?_cons_zero] at x0 x1 x2 x3 x4 x5 x6 x7 x8 x9 x10 x11 x12 x13
  have kq0 := hc.lt
  have v1 := vtxt_le topic
  have v2 := vtxt_le group
  have v3 := vtxt_le mem
  have v4 := vput_le pn
  have v5 := vput_le n
  have v6 := vput_le off
  have v7 := vput_le gen
  obtain ⟨ra, rc, rfl⟩ := (hrv.out _ (Below.refl _ _)).form
  obtain ⟨ta, tc, rfl⟩ := (htv.out _ (Below.refl _ _)).form
  have n_name := na_w_name
  have m_name := me_w_name
  have n_number := na_w_number
  have m_number := me_w_number
  have n_flag := na_w_flag
  have m_flag := me_w_flag
  have n_batch := na_w_batch
  have m_batch := me_w_batch
  have n_names := na_w_names
  have m_names := me_w_names
  clear hp
  go_enter Tryz.func13, Tryz.ntmps13
  have cc1 := Lib.hid (w_part B p q l w topic pn LB0.out (Nat.le_trans hBw BB0.out.size) hq ((BB0.out.cell (p := ⟨q, 1, none⟩) hq).trans x1) ((BB0.out.cell (p := ⟨q, 2, none⟩) hq).trans x2) ht hpn (by (try simp only [List.length_append]); omega))
  go_wp2_with fail
  refine cc1.out.use ?_
  intro w1 l1 b1
  have LB1 := Lib.hid l1
  have BB1 := Lib.hid (BB0.out.trans b1)
  clear l1 b1
  have cc2 := Lib.hid (w_batch B p ((l ++ vtxt topic) ++ vput pn) w1.drew bp be bq _ recs q LB1.out (Nat.le_trans hBw BB1.out.size) ((BB1.out.cell (p := ⟨q, 5, none⟩) hq).trans x5) ((BB1.out.cell (p := ⟨q, 6, none⟩) hq).trans x6) ((BB1.out.cell (p := ⟨q, 7, none⟩) hq).trans x7) ((BB1.out.cell (p := ⟨q, 8, none⟩) hq).trans x8) (hrv.out _ BB1.out.drew) hrb (by rw [List.length_append, List.length_append]; omega))
  go_wp2_with fail
  go_region_with (go_at_call 105; refine cc2.out.use ?_; intro w2 l2 b2)
  have LB2 := Lib.hid l2
  have BB2 := Lib.hid (BB1.out.drew.trans b2)
  clear l2 b2
  go_wp2_with fail
  first | refine bodyPost_end (results_none rfl _ _ _) rfl ?_ | refine bodyPost_ret (results_none rfl _ _ _) rfl ?_
  exact hR.out _ LB2.out BB2.out
set_option maxHeartbeats 2000000 in
set_option maxRecDepth 100000 in
theorem w_visit3 (B p q : Nat) (l topic group mem : List UInt8) (pn n off gen : Nat) (bp be bq : Int) (robin : Bool) (rv tv : Value) (recs : List Rec) (tops : List (List UInt8)) (w : World) (hp : Bld 90 B p l w) (hBw : B ≤ w.heap.size) (hq : q < B)
    (hc : Blk w q #[.int .i64 3, .string (S topic), .int .i64 (pn : Int), .int .i64 (n : Int), .int .i64 (off : Int), .int .i64 bp, .int .i64 be, .int .i64 bq, rv, .string (S group), .string (S mem), .int .i64 (gen : Int), .bool robin, tv] 29)
    (ht : topic.length ≤ 1000) (hg : group.length ≤ 1000) (hm : mem.length ≤ 1000) (hpn : pn ≤ 9223372036854775807) (hn : n ≤ 9223372036854775807) (hoff : off ≤ 9223372036854775807) (hgen : gen ≤ 9223372036854775807)
    (hrv : Hid (∀ W, Below B w W → RecsIn W rv recs)) (hrb : RecsBd recs) (hrl : (rbatch bp be bq recs).1.length ≤ 100000) (htv : Hid (∀ W, Below B w W → TopsIn W tv tops)) (hto : ∀ s ∈ tops, s.length ≤ 1000000) (hnl : (vput tops.length ++ tops.flatMap vtxt).length ≤ 100000) (hl : l.length ≤ 1000) :
    WCall 13 #[.iface 84 (.pointer (some ⟨p, 0, none⟩)), .pointer (some ⟨q, 0, none⟩)] w B p ((((l ++ vtxt topic) ++ vput pn) ++ vput off) ++ vput n) := by
  refine WCall.intro fun R hR => ?_
  have BB0 : Hid (Below B w w) := Lib.hid (Below.refl _ _)
  have LB0 := Lib.hid hp
  have x0 := hc.cell 0
  have x1 := hc.cell 1
  have x2 := hc.cell 2
  have x3 := hc.cell 3
  have x4 := hc.cell 4
  have x5 := hc.cell 5
  have x6 := hc.cell 6
  have x7 := hc.cell 7
  have x8 := hc.cell 8
  have x9 := hc.cell 9
  have x10 := hc.cell 10
  have x11 := hc.cell 11
  have x12 := hc.cell 12
  have x13 := hc.cell 13
  simp only [List.getElem?_toArray, List.getElem?_cons_succ, List.getElem?_cons_zero] at x0 x1 x2 x3 x4 x5 x6 x7 x8 x9 x10 x11 x12 x13
  have kq0 := hc.lt
  have v1 := vtxt_le topic
  have v2 := vtxt_le group
  have v3 := vtxt_le mem
  have v4 := vput_le pn
  have v5 := vput_le n
  have v6 := vput_le off
  have v7 := vput_le gen
  obtain ⟨ra, rc, rfl⟩ := (hrv.out _ (Below.refl _ _)).form
  obtain ⟨ta, tc, rfl⟩ := (htv.out _ (Below.refl _ _)).form
  have n_name := na_w_name
  have m_name := me_w_name
  have n_number := na_w_number
  have m_number := me_w_number
  have n_flag := na_w_flag
  have m_flag := me_w_flag
  have n_batch := na_w_batch
  have m_batch := me_w_batch
  have n_names := na_w_names
  have m_names := me_w_names
  clear hp
  go_enter Tryz.func13, Tryz.ntmps13
  have cc1 := Lib.hid (w_part B p q l w topic pn LB0.out (Nat.le_trans hBw BB0.out.size) hq ((BB0.out.cell (p := ⟨q, 1, none⟩) hq).trans x1) ((BB0.out.cell (p := ⟨q, 2, none⟩) hq).trans x2) ht hpn (by (try simp only [List.length_append]); omega))
  go_wp2_with fail
  refine cc1.out.use ?_
  intro w1 l1 b1
  have LB1 := Lib.hid l1
  have BB1 := Lib.hid (BB0.out.trans b1)
  clear l1 b1
  have cc2 := Lib.hid (w_number B p q 4 ((l ++ vtxt topic) ++ vput pn) w1.drew off LB1.out (Nat.le_trans hBw BB1.out.size) ((BB1.out.cell (p := ⟨q, 4, none⟩) hq).trans x4) hoff (by (try simp only [List.length_append]); omega))
  go_wp2_with fail
  go_region_with (go_at_call 34; refine cc2.out.use ?_; intro w2 l2 b2)
  have LB2 := Lib.hid l2
  have BB2 := Lib.hid (BB1.out.drew.trans b2)
  clear l2 b2
  have cc3 := Lib.hid (w_number B p q 3 (((l ++ vtxt topic) ++ vput pn) ++ vput off) w2.drew n LB2.out (Nat.le_trans hBw BB2.out.size) ((BB2.out.cell (p := ⟨q, 3, none⟩) hq).trans x3) hn (by (try simp only [List.length_append]); omega))
  go_wp2_with fail
  go_region_with (go_at_call 34; refine cc3.out.use ?_; intro w3 l3 b3)
  have LB3 := Lib.hid l3
  have BB3 := Lib.hid (BB2.out.drew.trans b3)
  clear l3 b3
  go_wp2_with fail
  first | refine bodyPost_end (results_none rfl _ _ _) rfl ?_ | refine bodyPost_ret (results_none rfl _ _ _) rfl ?_
  exact hR.out _ LB3.out BB3.out
set_option maxHeartbeats 2000000 in
set_option maxRecDepth 100000 in
theorem w_visit4 (B p q : Nat) (l topic group mem : List UInt8) (pn n off gen : Nat) (bp be bq : Int) (robin : Bool) (rv tv : Value) (recs : List Rec) (tops : List (List UInt8)) (w : World) (hp : Bld 90 B p l w) (hBw : B ≤ w.heap.size) (hq : q < B)
    (hc : Blk w q #[.int .i64 4, .string (S topic), .int .i64 (pn : Int), .int .i64 (n : Int), .int .i64 (off : Int), .int .i64 bp, .int .i64 be, .int .i64 bq, rv, .string (S group), .string (S mem), .int .i64 (gen : Int), .bool robin, tv] 29)
    (ht : topic.length ≤ 1000) (hg : group.length ≤ 1000) (hm : mem.length ≤ 1000) (hpn : pn ≤ 9223372036854775807) (hn : n ≤ 9223372036854775807) (hoff : off ≤ 9223372036854775807) (hgen : gen ≤ 9223372036854775807)
    (hrv : Hid (∀ W, Below B w W → RecsIn W rv recs)) (hrb : RecsBd recs) (hrl : (rbatch bp be bq recs).1.length ≤ 100000) (htv : Hid (∀ W, Below B w W → TopsIn W tv tops)) (hto : ∀ s ∈ tops, s.length ≤ 1000000) (hnl : (vput tops.length ++ tops.flatMap vtxt).length ≤ 100000) (hl : l.length ≤ 1000) :
    WCall 13 #[.iface 84 (.pointer (some ⟨p, 0, none⟩)), .pointer (some ⟨q, 0, none⟩)] w B p (((l ++ vtxt topic) ++ vput pn) ++ vput off) := by
  refine WCall.intro fun R hR => ?_
  have BB0 : Hid (Below B w w) := Lib.hid (Below.refl _ _)
  have LB0 := Lib.hid hp
  have x0 := hc.cell 0
  have x1 := hc.cell 1
  have x2 := hc.cell 2
  have x3 := hc.cell 3
  have x4 := hc.cell 4
  have x5 := hc.cell 5
  have x6 := hc.cell 6
  have x7 := hc.cell 7
  have x8 := hc.cell 8
  have x9 := hc.cell 9
  have x10 := hc.cell 10
  have x11 := hc.cell 11
  have x12 := hc.cell 12
  have x13 := hc.cell 13
  simp only [List.getElem?_toArray, List.getElem?_cons_succ, List.getElem?_cons_zero] at x0 x1 x2 x3 x4 x5 x6 x7 x8 x9 x10 x11 x12 x13
  have kq0 := hc.lt
  have v1 := vtxt_le topic
  have v2 := vtxt_le group
  have v3 := vtxt_le mem
  have v4 := vput_le pn
  have v5 := vput_le n
  have v6 := vput_le off
  have v7 := vput_le gen
  obtain ⟨ra, rc, rfl⟩ := (hrv.out _ (Below.refl _ _)).form
  obtain ⟨ta, tc, rfl⟩ := (htv.out _ (Below.refl _ _)).form
  have n_name := na_w_name
  have m_name := me_w_name
  have n_number := na_w_number
  have m_number := me_w_number
  have n_flag := na_w_flag
  have m_flag := me_w_flag
  have n_batch := na_w_batch
  have m_batch := me_w_batch
  have n_names := na_w_names
  have m_names := me_w_names
  clear hp
  go_enter Tryz.func13, Tryz.ntmps13
  have cc1 := Lib.hid (w_part B p q l w topic pn LB0.out (Nat.le_trans hBw BB0.out.size) hq ((BB0.out.cell (p := ⟨q, 1, none⟩) hq).trans x1) ((BB0.out.cell (p := ⟨q, 2, none⟩) hq).trans x2) ht hpn (by (try simp only [List.length_append]); omega))
  go_wp2_with fail
  refine cc1.out.use ?_
  intro w1 l1 b1
  have LB1 := Lib.hid l1
  have BB1 := Lib.hid (BB0.out.trans b1)
  clear l1 b1
  have cc2 := Lib.hid (w_number B p q 4 ((l ++ vtxt topic) ++ vput pn) w1.drew off LB1.out (Nat.le_trans hBw BB1.out.size) ((BB1.out.cell (p := ⟨q, 4, none⟩) hq).trans x4) hoff (by (try simp only [List.length_append]); omega))
  go_wp2_with fail
  go_region_with (go_at_call 34; refine cc2.out.use ?_; intro w2 l2 b2)
  have LB2 := Lib.hid l2
  have BB2 := Lib.hid (BB1.out.drew.trans b2)
  clear l2 b2
  go_wp2_with fail
  first | refine bodyPost_end (results_none rfl _ _ _) rfl ?_ | refine bodyPost_ret (results_none rfl _ _ _) rfl ?_
  exact hR.out _ LB2.out BB2.out
set_option maxHeartbeats 2000000 in
set_option maxRecDepth 100000 in
theorem w_visit5 (B p q : Nat) (l topic group mem : List UInt8) (pn n off gen : Nat) (bp be bq : Int) (robin : Bool) (rv tv : Value) (recs : List Rec) (tops : List (List UInt8)) (w : World) (hp : Bld 90 B p l w) (hBw : B ≤ w.heap.size) (hq : q < B)
    (hc : Blk w q #[.int .i64 5, .string (S topic), .int .i64 (pn : Int), .int .i64 (n : Int), .int .i64 (off : Int), .int .i64 bp, .int .i64 be, .int .i64 bq, rv, .string (S group), .string (S mem), .int .i64 (gen : Int), .bool robin, tv] 29)
    (ht : topic.length ≤ 1000) (hg : group.length ≤ 1000) (hm : mem.length ≤ 1000) (hpn : pn ≤ 9223372036854775807) (hn : n ≤ 9223372036854775807) (hoff : off ≤ 9223372036854775807) (hgen : gen ≤ 9223372036854775807)
    (hrv : Hid (∀ W, Below B w W → RecsIn W rv recs)) (hrb : RecsBd recs) (hrl : (rbatch bp be bq recs).1.length ≤ 100000) (htv : Hid (∀ W, Below B w W → TopsIn W tv tops)) (hto : ∀ s ∈ tops, s.length ≤ 1000000) (hnl : (vput tops.length ++ tops.flatMap vtxt).length ≤ 100000) (hl : l.length ≤ 1000) :
    WCall 13 #[.iface 84 (.pointer (some ⟨p, 0, none⟩)), .pointer (some ⟨q, 0, none⟩)] w B p ((l ++ vtxt topic) ++ vput pn) := by
  refine WCall.intro fun R hR => ?_
  have BB0 : Hid (Below B w w) := Lib.hid (Below.refl _ _)
  have LB0 := Lib.hid hp
  have x0 := hc.cell 0
  have x1 := hc.cell 1
  have x2 := hc.cell 2
  have x3 := hc.cell 3
  have x4 := hc.cell 4
  have x5 := hc.cell 5
  have x6 := hc.cell 6
  have x7 := hc.cell 7
  have x8 := hc.cell 8
  have x9 := hc.cell 9
  have x10 := hc.cell 10
  have x11 := hc.cell 11
  have x12 := hc.cell 12
  have x13 := hc.cell 13
  simp only [List.getElem?_toArray, List.getElem?_cons_succ, List.getElem?_cons_zero] at x0 x1 x2 x3 x4 x5 x6 x7 x8 x9 x10 x11 x12 x13
  have kq0 := hc.lt
  have v1 := vtxt_le topic
  have v2 := vtxt_le group
  have v3 := vtxt_le mem
  have v4 := vput_le pn
  have v5 := vput_le n
  have v6 := vput_le off
  have v7 := vput_le gen
  obtain ⟨ra, rc, rfl⟩ := (hrv.out _ (Below.refl _ _)).form
  obtain ⟨ta, tc, rfl⟩ := (htv.out _ (Below.refl _ _)).form
  have n_name := na_w_name
  have m_name := me_w_name
  have n_number := na_w_number
  have m_number := me_w_number
  have n_flag := na_w_flag
  have m_flag := me_w_flag
  have n_batch := na_w_batch
  have m_batch := me_w_batch
  have n_names := na_w_names
  have m_names := me_w_names
  clear hp
  go_enter Tryz.func13, Tryz.ntmps13
  have cc1 := Lib.hid (w_part B p q l w topic pn LB0.out (Nat.le_trans hBw BB0.out.size) hq ((BB0.out.cell (p := ⟨q, 1, none⟩) hq).trans x1) ((BB0.out.cell (p := ⟨q, 2, none⟩) hq).trans x2) ht hpn (by (try simp only [List.length_append]); omega))
  go_wp2_with fail
  refine cc1.out.use ?_
  intro w1 l1 b1
  have LB1 := Lib.hid l1
  have BB1 := Lib.hid (BB0.out.trans b1)
  clear l1 b1
  go_wp2_with fail
  first | refine bodyPost_end (results_none rfl _ _ _) rfl ?_ | refine bodyPost_ret (results_none rfl _ _ _) rfl ?_
  exact hR.out _ LB1.out BB1.out
set_option maxHeartbeats 2000000 in
set_option maxRecDepth 100000 in
theorem w_visit6 (B p q : Nat) (l topic group mem : List UInt8) (pn n off gen : Nat) (bp be bq : Int) (robin : Bool) (rv tv : Value) (recs : List Rec) (tops : List (List UInt8)) (w : World) (hp : Bld 90 B p l w) (hBw : B ≤ w.heap.size) (hq : q < B)
    (hc : Blk w q #[.int .i64 6, .string (S topic), .int .i64 (pn : Int), .int .i64 (n : Int), .int .i64 (off : Int), .int .i64 bp, .int .i64 be, .int .i64 bq, rv, .string (S group), .string (S mem), .int .i64 (gen : Int), .bool robin, tv] 29)
    (ht : topic.length ≤ 1000) (hg : group.length ≤ 1000) (hm : mem.length ≤ 1000) (hpn : pn ≤ 9223372036854775807) (hn : n ≤ 9223372036854775807) (hoff : off ≤ 9223372036854775807) (hgen : gen ≤ 9223372036854775807)
    (hrv : Hid (∀ W, Below B w W → RecsIn W rv recs)) (hrb : RecsBd recs) (hrl : (rbatch bp be bq recs).1.length ≤ 100000) (htv : Hid (∀ W, Below B w W → TopsIn W tv tops)) (hto : ∀ s ∈ tops, s.length ≤ 1000000) (hnl : (vput tops.length ++ tops.flatMap vtxt).length ≤ 100000) (hl : l.length ≤ 1000) :
    WCall 13 #[.iface 84 (.pointer (some ⟨p, 0, none⟩)), .pointer (some ⟨q, 0, none⟩)] w B p (((((l ++ vtxt group) ++ vtxt mem) ++ vput n) ++ [if robin then 1 else 0]) ++ (vput tops.length ++ tops.flatMap vtxt)) := by
  refine WCall.intro fun R hR => ?_
  have BB0 : Hid (Below B w w) := Lib.hid (Below.refl _ _)
  have LB0 := Lib.hid hp
  have x0 := hc.cell 0
  have x1 := hc.cell 1
  have x2 := hc.cell 2
  have x3 := hc.cell 3
  have x4 := hc.cell 4
  have x5 := hc.cell 5
  have x6 := hc.cell 6
  have x7 := hc.cell 7
  have x8 := hc.cell 8
  have x9 := hc.cell 9
  have x10 := hc.cell 10
  have x11 := hc.cell 11
  have x12 := hc.cell 12
  have x13 := hc.cell 13
  simp only [List.getElem?_toArray, List.getElem?_cons_succ, List.getElem?_cons_zero] at x0 x1 x2 x3 x4 x5 x6 x7 x8 x9 x10 x11 x12 x13
  have kq0 := hc.lt
  have v1 := vtxt_le topic
  have v2 := vtxt_le group
  have v3 := vtxt_le mem
  have v4 := vput_le pn
  have v5 := vput_le n
  have v6 := vput_le off
  have v7 := vput_le gen
  obtain ⟨ra, rc, rfl⟩ := (hrv.out _ (Below.refl _ _)).form
  obtain ⟨ta, tc, rfl⟩ := (htv.out _ (Below.refl _ _)).form
  have n_name := na_w_name
  have m_name := me_w_name
  have n_number := na_w_number
  have m_number := me_w_number
  have n_flag := na_w_flag
  have m_flag := me_w_flag
  have n_batch := na_w_batch
  have m_batch := me_w_batch
  have n_names := na_w_names
  have m_names := me_w_names
  clear hp
  go_enter Tryz.func13, Tryz.ntmps13
  have cc1 := Lib.hid (w_member B p q l w group mem LB0.out (Nat.le_trans hBw BB0.out.size) hq ((BB0.out.cell (p := ⟨q, 9, none⟩) hq).trans x9) ((BB0.out.cell (p := ⟨q, 10, none⟩) hq).trans x10) hg hm (by (try simp only [List.length_append]); omega))
  go_wp2_with fail
  refine cc1.out.use ?_
  intro w1 l1 b1
  have LB1 := Lib.hid l1
  have BB1 := Lib.hid (BB0.out.trans b1)
  clear l1 b1
  have cc2 := Lib.hid (w_number B p q 3 ((l ++ vtxt group) ++ vtxt mem) w1.drew n LB1.out (Nat.le_trans hBw BB1.out.size) ((BB1.out.cell (p := ⟨q, 3, none⟩) hq).trans x3) hn (by (try simp only [List.length_append]); omega))
  go_wp2_with fail
  go_region_with (go_at_call 34; refine cc2.out.use ?_; intro w2 l2 b2)
  have LB2 := Lib.hid l2
  have BB2 := Lib.hid (BB1.out.drew.trans b2)
  clear l2 b2
  have cc3 := Lib.hid (w_flag B p q 12 (((l ++ vtxt group) ++ vtxt mem) ++ vput n) w2.drew robin LB2.out (Nat.le_trans hBw BB2.out.size) ((BB2.out.cell (p := ⟨q, 12, none⟩) hq).trans x12) (Nat.lt_of_lt_of_le hq (Nat.le_trans hBw BB2.out.size)) (by (try simp only [List.length_append]); omega))
  go_wp2_with fail
  go_region_with (go_at_call 106; refine cc3.out.use ?_; intro w3 l3 b3)
  have LB3 := Lib.hid l3
  have BB3 := Lib.hid (BB2.out.drew.trans b3)
  clear l3 b3
  have TV3 : Hid (∀ W, Below B w3.drew W → TopsIn W _ tops) := Lib.hid (fun W hb => htv.out W (BB3.out.drew.trans hb))
  have cc4 := Lib.hid (w_names B p q 13 ((((l ++ vtxt group) ++ vtxt mem) ++ vput n) ++ [if robin then 1 else 0]) w3.drew _ tops LB3.out (Nat.le_trans hBw BB3.out.size) hq ((BB3.out.cell (p := ⟨q, 13, none⟩) hq).trans x13) TV3 hto (by simp only [List.length_append, List.length_cons, List.length_nil] at hnl ⊢; omega))
  go_wp2_with fail
  go_region_with (go_at_call 108; refine cc4.out.use ?_; intro w4 l4 b4)
  have LB4 := Lib.hid l4
  have BB4 := Lib.hid (BB3.out.drew.trans b4)
  clear l4 b4
  go_wp2_with fail
  first | refine bodyPost_end (results_none rfl _ _ _) rfl ?_ | refine bodyPost_ret (results_none rfl _ _ _) rfl ?_
  exact hR.out _ LB4.out BB4.out
set_option maxHeartbeats 2000000 in
set_option maxRecDepth 100000 in
theorem w_visit7 (B p q : Nat) (l topic group mem : List UInt8) (pn n off gen : Nat) (bp be bq : Int) (robin : Bool) (rv tv : Value) (recs : List Rec) (tops : List (List UInt8)) (w : World) (hp : Bld 90 B p l w) (hBw : B ≤ w.heap.size) (hq : q < B)
    (hc : Blk w q #[.int .i64 7, .string (S topic), .int .i64 (pn : Int), .int .i64 (n : Int), .int .i64 (off : Int), .int .i64 bp, .int .i64 be, .int .i64 bq, rv, .string (S group), .string (S mem), .int .i64 (gen : Int), .bool robin, tv] 29)
    (ht : topic.length ≤ 1000) (hg : group.length ≤ 1000) (hm : mem.length ≤ 1000) (hpn : pn ≤ 9223372036854775807) (hn : n ≤ 9223372036854775807) (hoff : off ≤ 9223372036854775807) (hgen : gen ≤ 9223372036854775807)
    (hrv : Hid (∀ W, Below B w W → RecsIn W rv recs)) (hrb : RecsBd recs) (hrl : (rbatch bp be bq recs).1.length ≤ 100000) (htv : Hid (∀ W, Below B w W → TopsIn W tv tops)) (hto : ∀ s ∈ tops, s.length ≤ 1000000) (hnl : (vput tops.length ++ tops.flatMap vtxt).length ≤ 100000) (hl : l.length ≤ 1000) :
    WCall 13 #[.iface 84 (.pointer (some ⟨p, 0, none⟩)), .pointer (some ⟨q, 0, none⟩)] w B p (((l ++ vtxt group) ++ vtxt mem) ++ vput gen) := by
  refine WCall.intro fun R hR => ?_
  have BB0 : Hid (Below B w w) := Lib.hid (Below.refl _ _)
  have LB0 := Lib.hid hp
  have x0 := hc.cell 0
  have x1 := hc.cell 1
  have x2 := hc.cell 2
  have x3 := hc.cell 3
  have x4 := hc.cell 4
  have x5 := hc.cell 5
  have x6 := hc.cell 6
  have x7 := hc.cell 7
  have x8 := hc.cell 8
  have x9 := hc.cell 9
  have x10 := hc.cell 10
  have x11 := hc.cell 11
  have x12 := hc.cell 12
  have x13 := hc.cell 13
  simp only [List.getElem?_toArray, List.getElem?_cons_succ, List.getElem?_cons_zero] at x0 x1 x2 x3 x4 x5 x6 x7 x8 x9 x10 x11 x12 x13
  have kq0 := hc.lt
  have v1 := vtxt_le topic
  have v2 := vtxt_le group
  have v3 := vtxt_le mem
  have v4 := vput_le pn
  have v5 := vput_le n
  have v6 := vput_le off
  have v7 := vput_le gen
  obtain ⟨ra, rc, rfl⟩ := (hrv.out _ (Below.refl _ _)).form
  obtain ⟨ta, tc, rfl⟩ := (htv.out _ (Below.refl _ _)).form
  have n_name := na_w_name
  have m_name := me_w_name
  have n_number := na_w_number
  have m_number := me_w_number
  have n_flag := na_w_flag
  have m_flag := me_w_flag
  have n_batch := na_w_batch
  have m_batch := me_w_batch
  have n_names := na_w_names
  have m_names := me_w_names
  clear hp
  go_enter Tryz.func13, Tryz.ntmps13
  have cc1 := Lib.hid (w_member B p q l w group mem LB0.out (Nat.le_trans hBw BB0.out.size) hq ((BB0.out.cell (p := ⟨q, 9, none⟩) hq).trans x9) ((BB0.out.cell (p := ⟨q, 10, none⟩) hq).trans x10) hg hm (by (try simp only [List.length_append]); omega))
  go_wp2_with fail
  refine cc1.out.use ?_
  intro w1 l1 b1
  have LB1 := Lib.hid l1
  have BB1 := Lib.hid (BB0.out.trans b1)
  clear l1 b1
  have cc2 := Lib.hid (w_number B p q 11 ((l ++ vtxt group) ++ vtxt mem) w1.drew gen LB1.out (Nat.le_trans hBw BB1.out.size) ((BB1.out.cell (p := ⟨q, 11, none⟩) hq).trans x11) hgen (by (try simp only [List.length_append]); omega))
  go_wp2_with fail
  go_region_with (go_at_call 34; refine cc2.out.use ?_; intro w2 l2 b2)
  have LB2 := Lib.hid l2
  have BB2 := Lib.hid (BB1.out.drew.trans b2)
  clear l2 b2
  go_wp2_with fail
  first | refine bodyPost_end (results_none rfl _ _ _) rfl ?_ | refine bodyPost_ret (results_none rfl _ _ _) rfl ?_
  exact hR.out _ LB2.out BB2.out
set_option maxHeartbeats 2000000 in
set_option maxRecDepth 100000 in
theorem w_visit8 (B p q : Nat) (l topic group mem : List UInt8) (pn n off gen : Nat) (bp be bq : Int) (robin : Bool) (rv tv : Value) (recs : List Rec) (tops : List (List UInt8)) (w : World) (hp : Bld 90 B p l w) (hBw : B ≤ w.heap.size) (hq : q < B)
    (hc : Blk w q #[.int .i64 8, .string (S topic), .int .i64 (pn : Int), .int .i64 (n : Int), .int .i64 (off : Int), .int .i64 bp, .int .i64 be, .int .i64 bq, rv, .string (S group), .string (S mem), .int .i64 (gen : Int), .bool robin, tv] 29)
    (ht : topic.length ≤ 1000) (hg : group.length ≤ 1000) (hm : mem.length ≤ 1000) (hpn : pn ≤ 9223372036854775807) (hn : n ≤ 9223372036854775807) (hoff : off ≤ 9223372036854775807) (hgen : gen ≤ 9223372036854775807)
    (hrv : Hid (∀ W, Below B w W → RecsIn W rv recs)) (hrb : RecsBd recs) (hrl : (rbatch bp be bq recs).1.length ≤ 100000) (htv : Hid (∀ W, Below B w W → TopsIn W tv tops)) (hto : ∀ s ∈ tops, s.length ≤ 1000000) (hnl : (vput tops.length ++ tops.flatMap vtxt).length ≤ 100000) (hl : l.length ≤ 1000) :
    WCall 13 #[.iface 84 (.pointer (some ⟨p, 0, none⟩)), .pointer (some ⟨q, 0, none⟩)] w B p (((l ++ vtxt group) ++ vtxt mem) ++ vput gen) := by
  refine WCall.intro fun R hR => ?_
  have BB0 : Hid (Below B w w) := Lib.hid (Below.refl _ _)
  have LB0 := Lib.hid hp
  have x0 := hc.cell 0
  have x1 := hc.cell 1
  have x2 := hc.cell 2
  have x3 := hc.cell 3
  have x4 := hc.cell 4
  have x5 := hc.cell 5
  have x6 := hc.cell 6
  have x7 := hc.cell 7
  have x8 := hc.cell 8
  have x9 := hc.cell 9
  have x10 := hc.cell 10
  have x11 := hc.cell 11
  have x12 := hc.cell 12
  have x13 := hc.cell 13
  simp only [List.getElem?_toArray, List.getElem?_cons_succ, List.getElem?_cons_zero] at x0 x1 x2 x3 x4 x5 x6 x7 x8 x9 x10 x11 x12 x13
  have kq0 := hc.lt
  have v1 := vtxt_le topic
  have v2 := vtxt_le group
  have v3 := vtxt_le mem
  have v4 := vput_le pn
  have v5 := vput_le n
  have v6 := vput_le off
  have v7 := vput_le gen
  obtain ⟨ra, rc, rfl⟩ := (hrv.out _ (Below.refl _ _)).form
  obtain ⟨ta, tc, rfl⟩ := (htv.out _ (Below.refl _ _)).form
  have n_name := na_w_name
  have m_name := me_w_name
  have n_number := na_w_number
  have m_number := me_w_number
  have n_flag := na_w_flag
  have m_flag := me_w_flag
  have n_batch := na_w_batch
  have m_batch := me_w_batch
  have n_names := na_w_names
  have m_names := me_w_names
  clear hp
  go_enter Tryz.func13, Tryz.ntmps13
  have cc1 := Lib.hid (w_member B p q l w group mem LB0.out (Nat.le_trans hBw BB0.out.size) hq ((BB0.out.cell (p := ⟨q, 9, none⟩) hq).trans x9) ((BB0.out.cell (p := ⟨q, 10, none⟩) hq).trans x10) hg hm (by (try simp only [List.length_append]); omega))
  go_wp2_with fail
  refine cc1.out.use ?_
  intro w1 l1 b1
  have LB1 := Lib.hid l1
  have BB1 := Lib.hid (BB0.out.trans b1)
  clear l1 b1
  have cc2 := Lib.hid (w_number B p q 11 ((l ++ vtxt group) ++ vtxt mem) w1.drew gen LB1.out (Nat.le_trans hBw BB1.out.size) ((BB1.out.cell (p := ⟨q, 11, none⟩) hq).trans x11) hgen (by (try simp only [List.length_append]); omega))
  go_wp2_with fail
  go_region_with (go_at_call 34; refine cc2.out.use ?_; intro w2 l2 b2)
  have LB2 := Lib.hid l2
  have BB2 := Lib.hid (BB1.out.drew.trans b2)
  clear l2 b2
  go_wp2_with fail
  first | refine bodyPost_end (results_none rfl _ _ _) rfl ?_ | refine bodyPost_ret (results_none rfl _ _ _) rfl ?_
  exact hR.out _ LB2.out BB2.out
set_option maxHeartbeats 2000000 in
set_option maxRecDepth 100000 in
theorem w_visit9 (B p q : Nat) (l topic group mem : List UInt8) (pn n off gen : Nat) (bp be bq : Int) (robin : Bool) (rv tv : Value) (recs : List Rec) (tops : List (List UInt8)) (w : World) (hp : Bld 90 B p l w) (hBw : B ≤ w.heap.size) (hq : q < B)
    (hc : Blk w q #[.int .i64 9, .string (S topic), .int .i64 (pn : Int), .int .i64 (n : Int), .int .i64 (off : Int), .int .i64 bp, .int .i64 be, .int .i64 bq, rv, .string (S group), .string (S mem), .int .i64 (gen : Int), .bool robin, tv] 29)
    (ht : topic.length ≤ 1000) (hg : group.length ≤ 1000) (hm : mem.length ≤ 1000) (hpn : pn ≤ 9223372036854775807) (hn : n ≤ 9223372036854775807) (hoff : off ≤ 9223372036854775807) (hgen : gen ≤ 9223372036854775807)
    (hrv : Hid (∀ W, Below B w W → RecsIn W rv recs)) (hrb : RecsBd recs) (hrl : (rbatch bp be bq recs).1.length ≤ 100000) (htv : Hid (∀ W, Below B w W → TopsIn W tv tops)) (hto : ∀ s ∈ tops, s.length ≤ 1000000) (hnl : (vput tops.length ++ tops.flatMap vtxt).length ≤ 100000) (hl : l.length ≤ 1000) :
    WCall 13 #[.iface 84 (.pointer (some ⟨p, 0, none⟩)), .pointer (some ⟨q, 0, none⟩)] w B p (((l ++ vtxt group) ++ vtxt mem) ++ vput gen) := by
  refine WCall.intro fun R hR => ?_
  have BB0 : Hid (Below B w w) := Lib.hid (Below.refl _ _)
  have LB0 := Lib.hid hp
  have x0 := hc.cell 0
  have x1 := hc.cell 1
  have x2 := hc.cell 2
  have x3 := hc.cell 3
  have x4 := hc.cell 4
  have x5 := hc.cell 5
  have x6 := hc.cell 6
  have x7 := hc.cell 7
  have x8 := hc.cell 8
  have x9 := hc.cell 9
  have x10 := hc.cell 10
  have x11 := hc.cell 11
  have x12 := hc.cell 12
  have x13 := hc.cell 13
  simp only [List.getElem?_toArray, List.getElem?_cons_succ, List.getElem?_cons_zero] at x0 x1 x2 x3 x4 x5 x6 x7 x8 x9 x10 x11 x12 x13
  have kq0 := hc.lt
  have v1 := vtxt_le topic
  have v2 := vtxt_le group
  have v3 := vtxt_le mem
  have v4 := vput_le pn
  have v5 := vput_le n
  have v6 := vput_le off
  have v7 := vput_le gen
  obtain ⟨ra, rc, rfl⟩ := (hrv.out _ (Below.refl _ _)).form
  obtain ⟨ta, tc, rfl⟩ := (htv.out _ (Below.refl _ _)).form
  have n_name := na_w_name
  have m_name := me_w_name
  have n_number := na_w_number
  have m_number := me_w_number
  have n_flag := na_w_flag
  have m_flag := me_w_flag
  have n_batch := na_w_batch
  have m_batch := me_w_batch
  have n_names := na_w_names
  have m_names := me_w_names
  clear hp
  go_enter Tryz.func13, Tryz.ntmps13
  have cc1 := Lib.hid (w_member B p q l w group mem LB0.out (Nat.le_trans hBw BB0.out.size) hq ((BB0.out.cell (p := ⟨q, 9, none⟩) hq).trans x9) ((BB0.out.cell (p := ⟨q, 10, none⟩) hq).trans x10) hg hm (by (try simp only [List.length_append]); omega))
  go_wp2_with fail
  refine cc1.out.use ?_
  intro w1 l1 b1
  have LB1 := Lib.hid l1
  have BB1 := Lib.hid (BB0.out.trans b1)
  clear l1 b1
  have cc2 := Lib.hid (w_number B p q 11 ((l ++ vtxt group) ++ vtxt mem) w1.drew gen LB1.out (Nat.le_trans hBw BB1.out.size) ((BB1.out.cell (p := ⟨q, 11, none⟩) hq).trans x11) hgen (by (try simp only [List.length_append]); omega))
  go_wp2_with fail
  go_region_with (go_at_call 34; refine cc2.out.use ?_; intro w2 l2 b2)
  have LB2 := Lib.hid l2
  have BB2 := Lib.hid (BB1.out.drew.trans b2)
  clear l2 b2
  go_wp2_with fail
  first | refine bodyPost_end (results_none rfl _ _ _) rfl ?_ | refine bodyPost_ret (results_none rfl _ _ _) rfl ?_
  exact hR.out _ LB2.out BB2.out
set_option maxHeartbeats 2000000 in
set_option maxRecDepth 100000 in
theorem w_visit10 (B p q : Nat) (l topic group mem : List UInt8) (pn n off gen : Nat) (bp be bq : Int) (robin : Bool) (rv tv : Value) (recs : List Rec) (tops : List (List UInt8)) (w : World) (hp : Bld 90 B p l w) (hBw : B ≤ w.heap.size) (hq : q < B)
    (hc : Blk w q #[.int .i64 10, .string (S topic), .int .i64 (pn : Int), .int .i64 (n : Int), .int .i64 (off : Int), .int .i64 bp, .int .i64 be, .int .i64 bq, rv, .string (S group), .string (S mem), .int .i64 (gen : Int), .bool robin, tv] 29)
    (ht : topic.length ≤ 1000) (hg : group.length ≤ 1000) (hm : mem.length ≤ 1000) (hpn : pn ≤ 9223372036854775807) (hn : n ≤ 9223372036854775807) (hoff : off ≤ 9223372036854775807) (hgen : gen ≤ 9223372036854775807)
    (hrv : Hid (∀ W, Below B w W → RecsIn W rv recs)) (hrb : RecsBd recs) (hrl : (rbatch bp be bq recs).1.length ≤ 100000) (htv : Hid (∀ W, Below B w W → TopsIn W tv tops)) (hto : ∀ s ∈ tops, s.length ≤ 1000000) (hnl : (vput tops.length ++ tops.flatMap vtxt).length ≤ 100000) (hl : l.length ≤ 1000) :
    WCall 13 #[.iface 84 (.pointer (some ⟨p, 0, none⟩)), .pointer (some ⟨q, 0, none⟩)] w B p ((((((l ++ vtxt group) ++ vtxt mem) ++ vput gen) ++ vtxt topic) ++ vput pn) ++ vput off) := by
  refine WCall.intro fun R hR => ?_
  have BB0 : Hid (Below B w w) := Lib.hid (Below.refl _ _)
  have LB0 := Lib.hid hp
  have x0 := hc.cell 0
  have x1 := hc.cell 1
  have x2 := hc.cell 2
  have x3 := hc.cell 3
  have x4 := hc.cell 4
  have x5 := hc.cell 5
  have x6 := hc.cell 6
  have x7 := hc.cell 7
  have x8 := hc.cell 8
  have x9 := hc.cell 9
  have x10 := hc.cell 10
  have x11 := hc.cell 11
  have x12 := hc.cell 12
  have x13 := hc.cell 13
  simp only [List.getElem?_toArray, List.getElem?_cons_succ, List.getElem?_cons_zero] at x0 x1 x2 x3 x4 x5 x6 x7 x8 x9 x10 x11 x12 x13
  have kq0 := hc.lt
  have v1 := vtxt_le topic
  have v2 := vtxt_le group
  have v3 := vtxt_le mem
  have v4 := vput_le pn
  have v5 := vput_le n
  have v6 := vput_le off
  have v7 := vput_le gen
  obtain ⟨ra, rc, rfl⟩ := (hrv.out _ (Below.refl _ _)).form
  obtain ⟨ta, tc, rfl⟩ := (htv.out _ (Below.refl _ _)).form
  have n_name := na_w_name
  have m_name := me_w_name
  have n_number := na_w_number
  have m_number := me_w_number
  have n_flag := na_w_flag
  have m_flag := me_w_flag
  have n_batch := na_w_batch
  have m_batch := me_w_batch
  have n_names := na_w_names
  have m_names := me_w_names
  clear hp
  go_enter Tryz.func13, Tryz.ntmps13
  have cc1 := Lib.hid (w_member B p q l w group mem LB0.out (Nat.le_trans hBw BB0.out.size) hq ((BB0.out.cell (p := ⟨q, 9, none⟩) hq).trans x9) ((BB0.out.cell (p := ⟨q, 10, none⟩) hq).trans x10) hg hm (by (try simp only [List.length_append]); omega))
  go_wp2_with fail
  refine cc1.out.use ?_
  intro w1 l1 b1
  have LB1 := Lib.hid l1
  have BB1 := Lib.hid (BB0.out.trans b1)
  clear l1 b1
  have cc2 := Lib.hid (w_number B p q 11 ((l ++ vtxt group) ++ vtxt mem) w1.drew gen LB1.out (Nat.le_trans hBw BB1.out.size) ((BB1.out.cell (p := ⟨q, 11, none⟩) hq).trans x11) hgen (by (try simp only [List.length_append]); omega))
  go_wp2_with fail
  go_region_with (go_at_call 34; refine cc2.out.use ?_; intro w2 l2 b2)
  have LB2 := Lib.hid l2
  have BB2 := Lib.hid (BB1.out.drew.trans b2)
  clear l2 b2
  have cc3 := Lib.hid (w_part B p q (((l ++ vtxt group) ++ vtxt mem) ++ vput gen) w2 topic pn LB2.out (Nat.le_trans hBw BB2.out.size) hq ((BB2.out.cell (p := ⟨q, 1, none⟩) hq).trans x1) ((BB2.out.cell (p := ⟨q, 2, none⟩) hq).trans x2) ht hpn (by (try simp only [List.length_append]); omega))
  go_wp2_with fail
  refine cc3.out.use ?_
  intro w3 l3 b3
  have LB3 := Lib.hid l3
  have BB3 := Lib.hid (BB2.out.trans b3)
  clear l3 b3
  have cc4 := Lib.hid (w_number B p q 4 (((((l ++ vtxt group) ++ vtxt mem) ++ vput gen) ++ vtxt topic) ++ vput pn) w3.drew off LB3.out (Nat.le_trans hBw BB3.out.size) ((BB3.out.cell (p := ⟨q, 4, none⟩) hq).trans x4) hoff (by (try simp only [List.length_append]); omega))
  go_wp2_with fail
  go_region_with (go_at_call 34; refine cc4.out.use ?_; intro w4 l4 b4)
  have LB4 := Lib.hid l4
  have BB4 := Lib.hid (BB3.out.drew.trans b4)
  clear l4 b4
  go_wp2_with fail
  first | refine bodyPost_end (results_none rfl _ _ _) rfl ?_ | refine bodyPost_ret (results_none rfl _ _ _) rfl ?_
  exact hR.out _ LB4.out BB4.out
set_option maxHeartbeats 2000000 in
set_option maxRecDepth 100000 in
theorem w_visit11 (B p q : Nat) (l topic group mem : List UInt8) (pn n off gen : Nat) (bp be bq : Int) (robin : Bool) (rv tv : Value) (recs : List Rec) (tops : List (List UInt8)) (w : World) (hp : Bld 90 B p l w) (hBw : B ≤ w.heap.size) (hq : q < B)
    (hc : Blk w q #[.int .i64 11, .string (S topic), .int .i64 (pn : Int), .int .i64 (n : Int), .int .i64 (off : Int), .int .i64 bp, .int .i64 be, .int .i64 bq, rv, .string (S group), .string (S mem), .int .i64 (gen : Int), .bool robin, tv] 29)
    (ht : topic.length ≤ 1000) (hg : group.length ≤ 1000) (hm : mem.length ≤ 1000) (hpn : pn ≤ 9223372036854775807) (hn : n ≤ 9223372036854775807) (hoff : off ≤ 9223372036854775807) (hgen : gen ≤ 9223372036854775807)
    (hrv : Hid (∀ W, Below B w W → RecsIn W rv recs)) (hrb : RecsBd recs) (hrl : (rbatch bp be bq recs).1.length ≤ 100000) (htv : Hid (∀ W, Below B w W → TopsIn W tv tops)) (hto : ∀ s ∈ tops, s.length ≤ 1000000) (hnl : (vput tops.length ++ tops.flatMap vtxt).length ≤ 100000) (hl : l.length ≤ 1000) :
    WCall 13 #[.iface 84 (.pointer (some ⟨p, 0, none⟩)), .pointer (some ⟨q, 0, none⟩)] w B p (((l ++ vtxt group) ++ vtxt topic) ++ vput pn) := by
  refine WCall.intro fun R hR => ?_
  have BB0 : Hid (Below B w w) := Lib.hid (Below.refl _ _)
  have LB0 := Lib.hid hp
  have x0 := hc.cell 0
  have x1 := hc.cell 1
  have x2 := hc.cell 2
  have x3 := hc.cell 3
  have x4 := hc.cell 4
  have x5 := hc.cell 5
  have x6 := hc.cell 6
  have x7 := hc.cell 7
  have x8 := hc.cell 8
  have x9 := hc.cell 9
  have x10 := hc.cell 10
  have x11 := hc.cell 11
  have x12 := hc.cell 12
  have x13 := hc.cell 13
  simp only [List.getElem?_toArray, List.getElem?_cons_succ, List.getElem?_cons_zero] at x0 x1 x2 x3 x4 x5 x6 x7 x8 x9 x10 x11 x12 x13
  have kq0 := hc.lt
  have v1 := vtxt_le topic
  have v2 := vtxt_le group
  have v3 := vtxt_le mem
  have v4 := vput_le pn
  have v5 := vput_le n
  have v6 := vput_le off
  have v7 := vput_le gen
  obtain ⟨ra, rc, rfl⟩ := (hrv.out _ (Below.refl _ _)).form
  obtain ⟨ta, tc, rfl⟩ := (htv.out _ (Below.refl _ _)).form
  have n_name := na_w_name
  have m_name := me_w_name
  have n_number := na_w_number
  have m_number := me_w_number
  have n_flag := na_w_flag
  have m_flag := me_w_flag
  have n_batch := na_w_batch
  have m_batch := me_w_batch
  have n_names := na_w_names
  have m_names := me_w_names
  clear hp
  go_enter Tryz.func13, Tryz.ntmps13
  have cc1 := Lib.hid (w_name B p q 9 l w.drew group LB0.out (Nat.le_trans hBw BB0.out.size) ((BB0.out.cell (p := ⟨q, 9, none⟩) hq).trans x9) (by omega) (by (try simp only [List.length_append]); omega))
  go_wp2_with fail
  go_region_with (go_at_call 107; refine cc1.out.use ?_; intro w1 l1 b1)
  have LB1 := Lib.hid l1
  have BB1 := Lib.hid (BB0.out.drew.trans b1)
  clear l1 b1
  have cc2 := Lib.hid (w_part B p q (l ++ vtxt group) w1 topic pn LB1.out (Nat.le_trans hBw BB1.out.size) hq ((BB1.out.cell (p := ⟨q, 1, none⟩) hq).trans x1) ((BB1.out.cell (p := ⟨q, 2, none⟩) hq).trans x2) ht hpn (by (try simp only [List.length_append]); omega))
  go_wp2_with fail
  refine cc2.out.use ?_
  intro w2 l2 b2
  have LB2 := Lib.hid l2
  have BB2 := Lib.hid (BB1.out.trans b2)
  clear l2 b2
  go_wp2_with fail
  first | refine bodyPost_end (results_none rfl _ _ _) rfl ?_ | refine bodyPost_ret (results_none rfl _ _ _) rfl ?_
  exact hR.out _ LB2.out BB2.out
set_option maxHeartbeats 2000000 in
set_option maxRecDepth 100000 in
theorem w_visit12 (B p q : Nat) (l topic group mem : List UInt8) (pn n off gen : Nat) (bp be bq : Int) (robin : Bool) (rv tv : Value) (recs : List Rec) (tops : List (List UInt8)) (w : World) (hp : Bld 90 B p l w) (hBw : B ≤ w.heap.size) (hq : q < B)
    (hc : Blk w q #[.int .i64 12, .string (S topic), .int .i64 (pn : Int), .int .i64 (n : Int), .int .i64 (off : Int), .int .i64 bp, .int .i64 be, .int .i64 bq, rv, .string (S group), .string (S mem), .int .i64 (gen : Int), .bool robin, tv] 29)
    (ht : topic.length ≤ 1000) (hg : group.length ≤ 1000) (hm : mem.length ≤ 1000) (hpn : pn ≤ 9223372036854775807) (hn : n ≤ 9223372036854775807) (hoff : off ≤ 9223372036854775807) (hgen : gen ≤ 9223372036854775807)
    (hrv : Hid (∀ W, Below B w W → RecsIn W rv recs)) (hrb : RecsBd recs) (hrl : (rbatch bp be bq recs).1.length ≤ 100000) (htv : Hid (∀ W, Below B w W → TopsIn W tv tops)) (hto : ∀ s ∈ tops, s.length ≤ 1000000) (hnl : (vput tops.length ++ tops.flatMap vtxt).length ≤ 100000) (hl : l.length ≤ 1000) :
    WCall 13 #[.iface 84 (.pointer (some ⟨p, 0, none⟩)), .pointer (some ⟨q, 0, none⟩)] w B p (l ++ vput n) := by
  refine WCall.intro fun R hR => ?_
  have BB0 : Hid (Below B w w) := Lib.hid (Below.refl _ _)
  have LB0 := Lib.hid hp
  have x0 := hc.cell 0
  have x1 := hc.cell 1
  have x2 := hc.cell 2
  have x3 := hc.cell 3
  have x4 := hc.cell 4
  have x5 := hc.cell 5
  have x6 := hc.cell 6
  have x7 := hc.cell 7
  have x8 := hc.cell 8
  have x9 := hc.cell 9
  have x10 := hc.cell 10
  have x11 := hc.cell 11
  have x12 := hc.cell 12
  have x13 := hc.cell 13
  simp only [List.getElem?_toArray, List.getElem?_cons_succ, List.getElem?_cons_zero] at x0 x1 x2 x3 x4 x5 x6 x7 x8 x9 x10 x11 x12 x13
  have kq0 := hc.lt
  have v1 := vtxt_le topic
  have v2 := vtxt_le group
  have v3 := vtxt_le mem
  have v4 := vput_le pn
  have v5 := vput_le n
  have v6 := vput_le off
  have v7 := vput_le gen
  obtain ⟨ra, rc, rfl⟩ := (hrv.out _ (Below.refl _ _)).form
  obtain ⟨ta, tc, rfl⟩ := (htv.out _ (Below.refl _ _)).form
  have n_name := na_w_name
  have m_name := me_w_name
  have n_number := na_w_number
  have m_number := me_w_number
  have n_flag := na_w_flag
  have m_flag := me_w_flag
  have n_batch := na_w_batch
  have m_batch := me_w_batch
  have n_names := na_w_names
  have m_names := me_w_names
  clear hp
  go_enter Tryz.func13, Tryz.ntmps13
  have cc1 := Lib.hid (w_number B p q 3 l w.drew n LB0.out (Nat.le_trans hBw BB0.out.size) ((BB0.out.cell (p := ⟨q, 3, none⟩) hq).trans x3) hn (by (try simp only [List.length_append]); omega))
  go_wp2_with fail
  go_region_with (go_at_call 34; refine cc1.out.use ?_; intro w1 l1 b1)
  have LB1 := Lib.hid l1
  have BB1 := Lib.hid (BB0.out.drew.trans b1)
  clear l1 b1
  go_wp2_with fail
  first | refine bodyPost_end (results_none rfl _ _ _) rfl ?_ | refine bodyPost_ret (results_none rfl _ _ _) rfl ?_
  exact hR.out _ LB1.out BB1.out
end Go.Proofs.YthiliodmbipikaaGreat
