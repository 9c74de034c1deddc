/-
  Layer 4: a check goes over a command.
-/
import Derived.Test.YthiliodmbipikaaGreatReqC
set_option linter.unusedVariables false
set_option linter.unusedSimpArgs false
namespace Go.Proofs.YthiliodmbipikaaGreat
open Go.RowKit
attribute [local go_sem] ByteArray.extract_mk ByteArray.mk_append_mk

theorem KeptR.drew' {bs : List Nat} {w W : World} (h : KeptR bs w W) : KeptR bs w W.drew := ⟨h.os, h.tape, h.output, h.size, h.block⟩
theorem na_c_name (k : Nat) (a : Addr) (w : World) : (nilAhead (k + 1) 108 (.pointer (some a)) "stagecoach/request.name").run Tryz.prog w = .ok (some false) w := by kernel_rfl
theorem me_c_name (k : Nat) (a : Addr) (w : World) : (method (k + 1) 108 (.pointer (some a)) "stagecoach/request.name").run Tryz.prog w = .ok (114, .pointer (some a)) w := by kernel_rfl
theorem na_c_number (k : Nat) (a : Addr) (w : World) : (nilAhead (k + 1) 108 (.pointer (some a)) "stagecoach/request.number").run Tryz.prog w = .ok (some false) w := by kernel_rfl
theorem me_c_number (k : Nat) (a : Addr) (w : World) : (method (k + 1) 108 (.pointer (some a)) "stagecoach/request.number").run Tryz.prog w = .ok (116, .pointer (some a)) w := by kernel_rfl
theorem na_c_flag (k : Nat) (a : Addr) (w : World) : (nilAhead (k + 1) 108 (.pointer (some a)) "stagecoach/request.flag").run Tryz.prog w = .ok (some false) w := by kernel_rfl
theorem me_c_flag (k : Nat) (a : Addr) (w : World) : (method (k + 1) 108 (.pointer (some a)) "stagecoach/request.flag").run Tryz.prog w = .ok (113, .pointer (some a)) w := by kernel_rfl
theorem na_c_batch (k : Nat) (a : Addr) (w : World) : (nilAhead (k + 1) 108 (.pointer (some a)) "stagecoach/request.batch").run Tryz.prog w = .ok (some false) w := by kernel_rfl
theorem me_c_batch (k : Nat) (a : Addr) (w : World) : (method (k + 1) 108 (.pointer (some a)) "stagecoach/request.batch").run Tryz.prog w = .ok (112, .pointer (some a)) w := by kernel_rfl
theorem na_c_names (k : Nat) (a : Addr) (w : World) : (nilAhead (k + 1) 108 (.pointer (some a)) "stagecoach/request.names").run Tryz.prog w = .ok (some false) w := by kernel_rfl
theorem me_c_names (k : Nat) (a : Addr) (w : World) : (method (k + 1) 108 (.pointer (some a)) "stagecoach/request.names").run Tryz.prog w = .ok (115, .pointer (some a)) w := by kernel_rfl
set_option maxHeartbeats 2000000 in
set_option maxRecDepth 100000 in
theorem ck_part (p q : Nat) (t : List UInt8) (n : Int) (c0 c3 c4 c5 c6 c7 c8 c9 c10 c11 c12 c13 : Value) (f a : Bool) (e : Int) (w : World) (hp : Blk w p #[.bool f, .bool a, .int .i64 e] 110) (hq : Blk w q #[c0, .string (S t), .int .i64 n, c3, c4, c5, c6, c7, c8, c9, c10, c11, c12, c13] 29) (hpq : p ≠ q) (ht : t.length ≤ maxLen) :
    VCall 32 #[.iface 108 (.pointer (some ⟨p, 0, none⟩)), .pointer (some ⟨q, 1, none⟩)] w p #[.bool (f || !isName t), .bool (a || !numB n), .int .i64 e] 110 q #[c0, .string (S []), .int .i64 0, c3, c4, c5, c6, c7, c8, c9, c10, c11, c12, c13] := by
  refine VCall.intro fun R hR => ?_
  have K0 := Lib.hid (KeptR.refl [p, q] w)
  have HP0 := Lib.hid hp
  have HQ0 := Lib.hid hq
  clear hp hq
  have n_name := na_c_name
  have m_name := me_c_name
  have n_number := na_c_number
  have m_number := me_c_number
  have n_flag := na_c_flag
  have m_flag := me_c_flag
  have n_batch := na_c_batch
  have m_batch := me_c_batch
  have n_names := na_c_names
  have m_names := me_c_names
  go_enter Tryz.func32, Tryz.ntmps32
  have cc1 := Lib.hid (ck_name p q 1 _ _ _ _ w.drew t HP0.out HQ0.out hpq rfl ht)
  go_wp2_with fail
  go_region_with (go_at_call 114; refine cc1.out.use ?_; intro w1 p1 q1 k1)
  have HP1 : Hid (Blk w1 p #[.bool (f || !isName t), .bool a, .int .i64 e] 110) := Lib.hid p1
  have HQ1 : Hid (Blk w1 q #[c0, .string (S []), .int .i64 n, c3, c4, c5, c6, c7, c8, c9, c10, c11, c12, c13] 29) := Lib.hid q1
  have K1 := Lib.hid (K0.out.drew'.trans k1)
  clear p1 q1 k1
  have cc2 := Lib.hid (ck_number p q 2 _ _ _ _ w1.drew n HP1.out HQ1.out hpq rfl)
  go_wp2_with fail
  go_region_with (go_at_call 116; refine cc2.out.use ?_; intro w2 p2 q2 k2)
  have HP2 : Hid (Blk w2 p #[.bool (f || !isName t), .bool (a || !numB n), .int .i64 e] 110) := Lib.hid p2
  have HQ2 : Hid (Blk w2 q #[c0, .string (S []), .int .i64 0, c3, c4, c5, c6, c7, c8, c9, c10, c11, c12, c13] 29) := Lib.hid q2
  have K2 := Lib.hid (K1.out.drew'.trans k2)
  clear p2 q2 k2
  go_wp2_with fail
  first | refine bodyPost_end (results_none rfl _ _ _) rfl ?_ | refine bodyPost_ret (results_none rfl _ _ _) rfl ?_
  exact hR.out _ HP2.out HQ2.out K2.out
set_option maxHeartbeats 2000000 in
set_option maxRecDepth 100000 in
theorem ck_member (p q : Nat) (s t : List UInt8) (c0 c1 c2 c3 c4 c5 c6 c7 c8 c11 c12 c13 : Value) (f a : Bool) (e : Int) (w : World) (hp : Blk w p #[.bool f, .bool a, .int .i64 e] 110) (hq : Blk w q #[c0, c1, c2, c3, c4, c5, c6, c7, c8, .string (S s), .string (S t), c11, c12, c13] 29) (hpq : p ≠ q) (hs : s.length ≤ maxLen) (ht : t.length ≤ maxLen) :
    VCall 33 #[.iface 108 (.pointer (some ⟨p, 0, none⟩)), .pointer (some ⟨q, 0, none⟩)] w p #[.bool ((f || !isName s) || !isName t), .bool a, .int .i64 e] 110 q #[c0, c1, c2, c3, c4, c5, c6, c7, c8, .string (S []), .string (S []), c11, c12, c13] := by
  refine VCall.intro fun R hR => ?_
  have K0 := Lib.hid (KeptR.refl [p, q] w)
  have HP0 := Lib.hid hp
  have HQ0 := Lib.hid hq
  clear hp hq
  have n_name := na_c_name
  have m_name := me_c_name
  have n_number := na_c_number
  have m_number := me_c_number
  have n_flag := na_c_flag
  have m_flag := me_c_flag
  have n_batch := na_c_batch
  have m_batch := me_c_batch
  have n_names := na_c_names
  have m_names := me_c_names
  go_enter Tryz.func33, Tryz.ntmps33
  have cc1 := Lib.hid (ck_name p q 9 _ _ _ _ w.drew s HP0.out HQ0.out hpq rfl hs)
  go_wp2_with fail
  go_region_with (go_at_call 114; refine cc1.out.use ?_; intro w1 p1 q1 k1)
  have HP1 : Hid (Blk w1 p #[.bool (f || !isName s), .bool a, .int .i64 e] 110) := Lib.hid p1
  have HQ1 : Hid (Blk w1 q #[c0, c1, c2, c3, c4, c5, c6, c7, c8, .string (S []), .string (S t), c11, c12, c13] 29) := Lib.hid q1
  have K1 := Lib.hid (K0.out.drew'.trans k1)
  clear p1 q1 k1
  have cc2 := Lib.hid (ck_name p q 10 _ _ _ _ w1.drew t HP1.out HQ1.out hpq rfl ht)
  go_wp2_with fail
  go_region_with (go_at_call 114; refine cc2.out.use ?_; intro w2 p2 q2 k2)
  have HP2 : Hid (Blk w2 p #[.bool ((f || !isName s) || !isName t), .bool a, .int .i64 e] 110) := Lib.hid p2
  have HQ2 : Hid (Blk w2 q #[c0, c1, c2, c3, c4, c5, c6, c7, c8, .string (S []), .string (S []), c11, c12, c13] 29) := Lib.hid q2
  have K2 := Lib.hid (K1.out.drew'.trans k2)
  clear p2 q2 k2
  go_wp2_with fail
  first | refine bodyPost_end (results_none rfl _ _ _) rfl ?_ | refine bodyPost_ret (results_none rfl _ _ _) rfl ?_
  exact hR.out _ HP2.out HQ2.out K2.out
set_option maxHeartbeats 2000000 in
set_option maxRecDepth 100000 in
theorem ck_visit0 (p q : Nat) (topic group mem : List UInt8) (pn n off bp be bq gen : Int) (robin : Bool) (rv tv : Value) (recs : List Rec) (tops : List (List UInt8)) (f a : Bool) (e : Int) (w : World) (hp : Blk w p #[.bool f, .bool a, .int .i64 e] 110) (hq : Blk w q #[.int .i64 0, .string (S topic), .int .i64 pn, .int .i64 n, .int .i64 off, .int .i64 bp, .int .i64 be, .int .i64 bq, rv, .string (S group), .string (S mem), .int .i64 gen, .bool robin, tv] 29) (hpq : p ≠ q)
    (ht : topic.length ≤ maxLen) (hg : group.length ≤ maxLen) (hm : mem.length ≤ maxLen) (hrv : Hid (∀ W, KeptR [p, q] w W → RecsIn W rv recs)) (hrb : RecsBd recs) (htv : Hid (∀ W, KeptR [p, q] w W → TopsIn W tv tops)) (hto : tops.length ≤ 1000000 ∧ ∀ s ∈ tops, s.length ≤ maxLen) :
    VCall 13 #[.iface 108 (.pointer (some ⟨p, 0, none⟩)), .pointer (some ⟨q, 0, none⟩)] w p #[.bool (f || !isName topic), .bool (a || !numB n), .int .i64 e] 110 q #[.int .i64 0, .string (S []), .int .i64 pn, .int .i64 0, .int .i64 off, .int .i64 bp, .int .i64 be, .int .i64 bq, rv, .string (S group), .string (S mem), .int .i64 gen, .bool robin, tv] := by
  refine VCall.intro fun R hR => ?_
  have K0 := Lib.hid (KeptR.refl [p, q] w)
  have HP0 := Lib.hid hp
  have HQ0 := Lib.hid hq
  obtain ⟨kq0, x0⟩ : q < w.heap.size ∧ w.cell? ⟨q, 0, none⟩ = some (.int .i64 0) := ⟨hq.lt, hq.cell 0⟩
  obtain ⟨ra, rc, rfl⟩ := (hrv.out _ (KeptR.refl _ _)).form
  obtain ⟨ta, tc, rfl⟩ := (htv.out _ (KeptR.refl _ _)).form
  clear hp hq
  have n_name := na_c_name
  have m_name := me_c_name
  have n_number := na_c_number
  have m_number := me_c_number
  have n_flag := na_c_flag
  have m_flag := me_c_flag
  have n_batch := na_c_batch
  have m_batch := me_c_batch
  have n_names := na_c_names
  have m_names := me_c_names
  go_enter Tryz.func13, Tryz.ntmps13
  have cc1 := Lib.hid (ck_name p q 1 _ _ _ _ w.drew topic HP0.out HQ0.out hpq rfl ht)
  go_wp2_with fail
  go_region_with (go_at_call 114; refine cc1.out.use ?_; intro w1 p1 q1 k1)
  have HP1 : Hid (Blk w1 p #[.bool (f || !isName topic), .bool a, .int .i64 e] 110) := Lib.hid p1
  have HQ1 : Hid (Blk w1 q #[.int .i64 0, .string (S []), .int .i64 pn, .int .i64 n, .int .i64 off, .int .i64 bp, .int .i64 be, .int .i64 bq, .slice ra recs.length rc, .string (S group), .string (S mem), .int .i64 gen, .bool robin, .slice ta tops.length tc] 29) := Lib.hid q1
  have K1 := Lib.hid (K0.out.drew'.trans k1)
  clear p1 q1 k1
  have cc2 := Lib.hid (ck_number p q 3 _ _ _ _ w1.drew n HP1.out HQ1.out hpq rfl)
  go_wp2_with fail
  go_region_with (go_at_call 116; refine cc2.out.use ?_; intro w2 p2 q2 k2)
  have HP2 : Hid (Blk w2 p #[.bool (f || !isName topic), .bool (a || !numB n), .int .i64 e] 110) := Lib.hid p2
  have HQ2 : Hid (Blk w2 q #[.int .i64 0, .string (S []), .int .i64 pn, .int .i64 0, .int .i64 off, .int .i64 bp, .int .i64 be, .int .i64 bq, .slice ra recs.length rc, .string (S group), .string (S mem), .int .i64 gen, .bool robin, .slice ta tops.length tc] 29) := Lib.hid q2
  have K2 := Lib.hid (K1.out.drew'.trans k2)
  clear p2 q2 k2
  go_wp2_with fail
  first | refine bodyPost_end (results_none rfl _ _ _) rfl ?_ | refine bodyPost_ret (results_none rfl _ _ _) rfl ?_
  exact hR.out _ HP2.out HQ2.out K2.out
set_option maxHeartbeats 2000000 in
set_option maxRecDepth 100000 in
theorem ck_visit1 (p q : Nat) (topic group mem : List UInt8) (pn n off bp be bq gen : Int) (robin : Bool) (rv tv : Value) (recs : List Rec) (tops : List (List UInt8)) (f a : Bool) (e : Int) (w : World) (hp : Blk w p #[.bool f, .bool a, .int .i64 e] 110) (hq : Blk w q #[.int .i64 1, .string (S topic), .int .i64 pn, .int .i64 n, .int .i64 off, .int .i64 bp, .int .i64 be, .int .i64 bq, rv, .string (S group), .string (S mem), .int .i64 gen, .bool robin, tv] 29) (hpq : p ≠ q)
    (ht : topic.length ≤ maxLen) (hg : group.length ≤ maxLen) (hm : mem.length ≤ maxLen) (hrv : Hid (∀ W, KeptR [p, q] w W → RecsIn W rv recs)) (hrb : RecsBd recs) (htv : Hid (∀ W, KeptR [p, q] w W → TopsIn W tv tops)) (hto : tops.length ≤ 1000000 ∧ ∀ s ∈ tops, s.length ≤ maxLen) :
    VCall 13 #[.iface 108 (.pointer (some ⟨p, 0, none⟩)), .pointer (some ⟨q, 0, none⟩)] w p #[.bool f, .bool (a || !numB n), .int .i64 e] 110 q #[.int .i64 1, .string (S topic), .int .i64 pn, .int .i64 0, .int .i64 off, .int .i64 bp, .int .i64 be, .int .i64 bq, rv, .string (S group), .string (S mem), .int .i64 gen, .bool robin, tv] := by
  refine VCall.intro fun R hR => ?_
  have K0 := Lib.hid (KeptR.refl [p, q] w)
  have HP0 := Lib.hid hp
  have HQ0 := Lib.hid hq
  obtain ⟨kq0, x0⟩ : q < w.heap.size ∧ w.cell? ⟨q, 0, none⟩ = some (.int .i64 1) := ⟨hq.lt, hq.cell 0⟩
  obtain ⟨ra, rc, rfl⟩ := (hrv.out _ (KeptR.refl _ _)).form
  obtain ⟨ta, tc, rfl⟩ := (htv.out _ (KeptR.refl _ _)).form
  clear hp hq
  have n_name := na_c_name
  have m_name := me_c_name
  have n_number := na_c_number
  have m_number := me_c_number
  have n_flag := na_c_flag
  have m_flag := me_c_flag
  have n_batch := na_c_batch
  have m_batch := me_c_batch
  have n_names := na_c_names
  have m_names := me_c_names
  go_enter Tryz.func13, Tryz.ntmps13
  have cc1 := Lib.hid (ck_number p q 3 _ _ _ _ w.drew n HP0.out HQ0.out hpq rfl)
  go_wp2_with fail
  go_region_with (go_at_call 116; refine cc1.out.use ?_; intro w1 p1 q1 k1)
  have HP1 : Hid (Blk w1 p #[.bool f, .bool (a || !numB n), .int .i64 e] 110) := Lib.hid p1
  have HQ1 : Hid (Blk w1 q #[.int .i64 1, .string (S topic), .int .i64 pn, .int .i64 0, .int .i64 off, .int .i64 bp, .int .i64 be, .int .i64 bq, .slice ra recs.length rc, .string (S group), .string (S mem), .int .i64 gen, .bool robin, .slice ta tops.length tc] 29) := Lib.hid q1
  have K1 := Lib.hid (K0.out.drew'.trans k1)
  clear p1 q1 k1
  go_wp2_with fail
  first | refine bodyPost_end (results_none rfl _ _ _) rfl ?_ | refine bodyPost_ret (results_none rfl _ _ _) rfl ?_
  exact hR.out _ HP1.out HQ1.out K1.out
set_option maxHeartbeats 2000000 in
set_option maxRecDepth 100000 in
theorem ck_visit2 (p q : Nat) (topic group mem : List UInt8) (pn n off bp be bq gen : Int) (robin : Bool) (rv tv : Value) (recs : List Rec) (tops : List (List UInt8)) (f a : Bool) (e : Int) (w : World) (hp : Blk w p #[.bool f, .bool a, .int .i64 e] 110) (hq : Blk w q #[.int .i64 2, .string (S topic), .int .i64 pn, .int .i64 n, .int .i64 off, .int .i64 bp, .int .i64 be, .int .i64 bq, rv, .string (S group), .string (S mem), .int .i64 gen, .bool robin, tv] 29) (hpq : p ≠ q)
    (ht : topic.length ≤ maxLen) (hg : group.length ≤ maxLen) (hm : mem.length ≤ maxLen) (hrv : Hid (∀ W, KeptR [p, q] w W → RecsIn W rv recs)) (hrb : RecsBd recs) (htv : Hid (∀ W, KeptR [p, q] w W → TopsIn W tv tops)) (hto : tops.length ≤ 1000000 ∧ ∀ s ∈ tops, s.length ≤ maxLen) :
    VCall 13 #[.iface 108 (.pointer (some ⟨p, 0, none⟩)), .pointer (some ⟨q, 0, none⟩)] w p #[.bool (f || !isName topic), .bool (a || !numB pn), .int .i64 (rall bp be bq recs : Nat)] 110 q #[.int .i64 2, .string (S []), .int .i64 0, .int .i64 n, .int .i64 off, .int .i64 0, .int .i64 0, .int .i64 0, .slice none 0 0, .string (S group), .string (S mem), .int .i64 gen, .bool robin, tv] := by
  refine VCall.intro fun R hR => ?_
  have K0 := Lib.hid (KeptR.refl [p, q] w)
  have HP0 := Lib.hid hp
  have HQ0 := Lib.hid hq
  obtain ⟨kq0, x0⟩ : q < w.heap.size ∧ w.cell? ⟨q, 0, none⟩ = some (.int .i64 2) := ⟨hq.lt, hq.cell 0⟩
  obtain ⟨ra, rc, rfl⟩ := (hrv.out _ (KeptR.refl _ _)).form
  obtain ⟨ta, tc, rfl⟩ := (htv.out _ (KeptR.refl _ _)).form
  clear hp hq
  have n_name := na_c_name
  have m_name := me_c_name
  have n_number := na_c_number
  have m_number := me_c_number
  have n_flag := na_c_flag
  have m_flag := me_c_flag
  have n_batch := na_c_batch
  have m_batch := me_c_batch
  have n_names := na_c_names
  have m_names := me_c_names
  go_enter Tryz.func13, Tryz.ntmps13
  have cc1 := Lib.hid (ck_part p q topic pn _ _ _ _ _ _ _ _ _ _ _ _ _ _ _ w HP0.out HQ0.out hpq ht)
  go_wp2_with fail
  refine cc1.out.use ?_
  intro w1 p1 q1 k1
  have HP1 : Hid (Blk w1 p #[.bool (f || !isName topic), .bool (a || !numB pn), .int .i64 e] 110) := Lib.hid p1
  have HQ1 : Hid (Blk w1 q #[.int .i64 2, .string (S []), .int .i64 0, .int .i64 n, .int .i64 off, .int .i64 bp, .int .i64 be, .int .i64 bq, .slice ra recs.length rc, .string (S group), .string (S mem), .int .i64 gen, .bool robin, .slice ta tops.length tc] 29) := Lib.hid q1
  have K1 := Lib.hid (K0.out.trans k1)
  clear p1 q1 k1
  have RV1 := Lib.hid (hrv.out _ K1.out.drew')
  have cc2 := Lib.hid (ck_batch p q _ _ _ w1.drew bp be bq _ recs _ _ _ _ _ _ _ _ _ _ HP1.out HQ1.out hpq RV1.out hrb)
  go_wp2_with fail
  go_region_with (go_at_call 112; refine cc2.out.use ?_; intro w2 p2 q2 k2)
  have HP2 : Hid (Blk w2 p #[.bool (f || !isName topic), .bool (a || !numB pn), .int .i64 (rall bp be bq recs : Nat)] 110) := Lib.hid p2
  have HQ2 : Hid (Blk w2 q #[.int .i64 2, .string (S []), .int .i64 0, .int .i64 n, .int .i64 off, .int .i64 0, .int .i64 0, .int .i64 0, .slice none 0 0, .string (S group), .string (S mem), .int .i64 gen, .bool robin, .slice ta tops.length tc] 29) := Lib.hid q2
  have K2 := Lib.hid (K1.out.drew'.trans k2)
  clear p2 q2 k2
  go_wp2_with fail
  first | refine bodyPost_end (results_none rfl _ _ _) rfl ?_ | refine bodyPost_ret (results_none rfl _ _ _) rfl ?_
  exact hR.out _ HP2.out HQ2.out K2.out
set_option maxHeartbeats 2000000 in
set_option maxRecDepth 100000 in
theorem ck_visit3 (p q : Nat) (topic group mem : List UInt8) (pn n off bp be bq gen : Int) (robin : Bool) (rv tv : Value) (recs : List Rec) (tops : List (List UInt8)) (f a : Bool) (e : Int) (w : World) (hp : Blk w p #[.bool f, .bool a, .int .i64 e] 110) (hq : Blk w q #[.int .i64 3, .string (S topic), .int .i64 pn, .int .i64 n, .int .i64 off, .int .i64 bp, .int .i64 be, .int .i64 bq, rv, .string (S group), .string (S mem), .int .i64 gen, .bool robin, tv] 29) (hpq : p ≠ q)
    (ht : topic.length ≤ maxLen) (hg : group.length ≤ maxLen) (hm : mem.length ≤ maxLen) (hrv : Hid (∀ W, KeptR [p, q] w W → RecsIn W rv recs)) (hrb : RecsBd recs) (htv : Hid (∀ W, KeptR [p, q] w W → TopsIn W tv tops)) (hto : tops.length ≤ 1000000 ∧ ∀ s ∈ tops, s.length ≤ maxLen) :
    VCall 13 #[.iface 108 (.pointer (some ⟨p, 0, none⟩)), .pointer (some ⟨q, 0, none⟩)] w p #[.bool (f || !isName topic), .bool (((a || !numB pn) || !numB off) || !numB n), .int .i64 e] 110 q #[.int .i64 3, .string (S []), .int .i64 0, .int .i64 0, .int .i64 0, .int .i64 bp, .int .i64 be, .int .i64 bq, rv, .string (S group), .string (S mem), .int .i64 gen, .bool robin, tv] := by
  refine VCall.intro fun R hR => ?_
  have K0 := Lib.hid (KeptR.refl [p, q] w)
  have HP0 := Lib.hid hp
  have HQ0 := Lib.hid hq
  obtain ⟨kq0, x0⟩ : q < w.heap.size ∧ w.cell? ⟨q, 0, none⟩ = some (.int .i64 3) := ⟨hq.lt, hq.cell 0⟩
  obtain ⟨ra, rc, rfl⟩ := (hrv.out _ (KeptR.refl _ _)).form
  obtain ⟨ta, tc, rfl⟩ := (htv.out _ (KeptR.refl _ _)).form
  clear hp hq
  have n_name := na_c_name
  have m_name := me_c_name
  have n_number := na_c_number
  have m_number := me_c_number
  have n_flag := na_c_flag
  have m_flag := me_c_flag
  have n_batch := na_c_batch
  have m_batch := me_c_batch
  have n_names := na_c_names
  have m_names := me_c_names
  go_enter Tryz.func13, Tryz.ntmps13
  have cc1 := Lib.hid (ck_part p q topic pn _ _ _ _ _ _ _ _ _ _ _ _ _ _ _ w HP0.out HQ0.out hpq ht)
  go_wp2_with fail
  refine cc1.out.use ?_
  intro w1 p1 q1 k1
  have HP1 : Hid (Blk w1 p #[.bool (f || !isName topic), .bool (a || !numB pn), .int .i64 e] 110) := Lib.hid p1
  have HQ1 : Hid (Blk w1 q #[.int .i64 3, .string (S []), .int .i64 0, .int .i64 n, .int .i64 off, .int .i64 bp, .int .i64 be, .int .i64 bq, .slice ra recs.length rc, .string (S group), .string (S mem), .int .i64 gen, .bool robin, .slice ta tops.length tc] 29) := Lib.hid q1
  have K1 := Lib.hid (K0.out.trans k1)
  clear p1 q1 k1
  have cc2 := Lib.hid (ck_number p q 4 _ _ _ _ w1.drew off HP1.out HQ1.out hpq rfl)
  go_wp2_with fail
  go_region_with (go_at_call 116; refine cc2.out.use ?_; intro w2 p2 q2 k2)
  have HP2 : Hid (Blk w2 p #[.bool (f || !isName topic), .bool ((a || !numB pn) || !numB off), .int .i64 e] 110) := Lib.hid p2
  have HQ2 : Hid (Blk w2 q #[.int .i64 3, .string (S []), .int .i64 0, .int .i64 n, .int .i64 0, .int .i64 bp, .int .i64 be, .int .i64 bq, .slice ra recs.length rc, .string (S group), .string (S mem), .int .i64 gen, .bool robin, .slice ta tops.length tc] 29) := Lib.hid q2
  have K2 := Lib.hid (K1.out.drew'.trans k2)
  clear p2 q2 k2
  have cc3 := Lib.hid (ck_number p q 3 _ _ _ _ w2.drew n HP2.out HQ2.out hpq rfl)
  go_wp2_with fail
  go_region_with (go_at_call 116; refine cc3.out.use ?_; intro w3 p3 q3 k3)
  have HP3 : Hid (Blk w3 p #[.bool (f || !isName topic), .bool (((a || !numB pn) || !numB off) || !numB n), .int .i64 e] 110) := Lib.hid p3
  have HQ3 : Hid (Blk w3 q #[.int .i64 3, .string (S []), .int .i64 0, .int .i64 0, .int .i64 0, .int .i64 bp, .int .i64 be, .int .i64 bq, .slice ra recs.length rc, .string (S group), .string (S mem), .int .i64 gen, .bool robin, .slice ta tops.length tc] 29) := Lib.hid q3
  have K3 := Lib.hid (K2.out.drew'.trans k3)
  clear p3 q3 k3
  go_wp2_with fail
  first | refine bodyPost_end (results_none rfl _ _ _) rfl ?_ | refine bodyPost_ret (results_none rfl _ _ _) rfl ?_
  exact hR.out _ HP3.out HQ3.out K3.out
set_option maxHeartbeats 2000000 in
set_option maxRecDepth 100000 in
theorem ck_visit4 (p q : Nat) (topic group mem : List UInt8) (pn n off bp be bq gen : Int) (robin : Bool) (rv tv : Value) (recs : List Rec) (tops : List (List UInt8)) (f a : Bool) (e : Int) (w : World) (hp : Blk w p #[.bool f, .bool a, .int .i64 e] 110) (hq : Blk w q #[.int .i64 4, .string (S topic), .int .i64 pn, .int .i64 n, .int .i64 off, .int .i64 bp, .int .i64 be, .int .i64 bq, rv, .string (S group), .string (S mem), .int .i64 gen, .bool robin, tv] 29) (hpq : p ≠ q)
    (ht : topic.length ≤ maxLen) (hg : group.length ≤ maxLen) (hm : mem.length ≤ maxLen) (hrv : Hid (∀ W, KeptR [p, q] w W → RecsIn W rv recs)) (hrb : RecsBd recs) (htv : Hid (∀ W, KeptR [p, q] w W → TopsIn W tv tops)) (hto : tops.length ≤ 1000000 ∧ ∀ s ∈ tops, s.length ≤ maxLen) :
    VCall 13 #[.iface 108 (.pointer (some ⟨p, 0, none⟩)), .pointer (some ⟨q, 0, none⟩)] w p #[.bool (f || !isName topic), .bool ((a || !numB pn) || !numB off), .int .i64 e] 110 q #[.int .i64 4, .string (S []), .int .i64 0, .int .i64 n, .int .i64 0, .int .i64 bp, .int .i64 be, .int .i64 bq, rv, .string (S group), .string (S mem), .int .i64 gen, .bool robin, tv] := by
  refine VCall.intro fun R hR => ?_
  have K0 := Lib.hid (KeptR.refl [p, q] w)
  have HP0 := Lib.hid hp
  have HQ0 := Lib.hid hq
  obtain ⟨kq0, x0⟩ : q < w.heap.size ∧ w.cell? ⟨q, 0, none⟩ = some (.int .i64 4) := ⟨hq.lt, hq.cell 0⟩
  obtain ⟨ra, rc, rfl⟩ := (hrv.out _ (KeptR.refl _ _)).form
  obtain ⟨ta, tc, rfl⟩ := (htv.out _ (KeptR.refl _ _)).form
  clear hp hq
  have n_name := na_c_name
  have m_name := me_c_name
  have n_number := na_c_number
  have m_number := me_c_number
  have n_flag := na_c_flag
  have m_flag := me_c_flag
  have n_batch := na_c_batch
  have m_batch := me_c_batch
  have n_names := na_c_names
  have m_names := me_c_names
  go_enter Tryz.func13, Tryz.ntmps13
  have cc1 := Lib.hid (ck_part p q topic pn _ _ _ _ _ _ _ _ _ _ _ _ _ _ _ w HP0.out HQ0.out hpq ht)
  go_wp2_with fail
  refine cc1.out.use ?_
  intro w1 p1 q1 k1
  have HP1 : Hid (Blk w1 p #[.bool (f || !isName topic), .bool (a || !numB pn), .int .i64 e] 110) := Lib.hid p1
  have HQ1 : Hid (Blk w1 q #[.int .i64 4, .string (S []), .int .i64 0, .int .i64 n, .int .i64 off, .int .i64 bp, .int .i64 be, .int .i64 bq, .slice ra recs.length rc, .string (S group), .string (S mem), .int .i64 gen, .bool robin, .slice ta tops.length tc] 29) := Lib.hid q1
  have K1 := Lib.hid (K0.out.trans k1)
  clear p1 q1 k1
  have cc2 := Lib.hid (ck_number p q 4 _ _ _ _ w1.drew off HP1.out HQ1.out hpq rfl)
  go_wp2_with fail
  go_region_with (go_at_call 116; refine cc2.out.use ?_; intro w2 p2 q2 k2)
  have HP2 : Hid (Blk w2 p #[.bool (f || !isName topic), .bool ((a || !numB pn) || !numB off), .int .i64 e] 110) := Lib.hid p2
  have HQ2 : Hid (Blk w2 q #[.int .i64 4, .string (S []), .int .i64 0, .int .i64 n, .int .i64 0, .int .i64 bp, .int .i64 be, .int .i64 bq, .slice ra recs.length rc, .string (S group), .string (S mem), .int .i64 gen, .bool robin, .slice ta tops.length tc] 29) := Lib.hid q2
  have K2 := Lib.hid (K1.out.drew'.trans k2)
  clear p2 q2 k2
  go_wp2_with fail
  first | refine bodyPost_end (results_none rfl _ _ _) rfl ?_ | refine bodyPost_ret (results_none rfl _ _ _) rfl ?_
  exact hR.out _ HP2.out HQ2.out K2.out
set_option maxHeartbeats 2000000 in
set_option maxRecDepth 100000 in
theorem ck_visit5 (p q : Nat) (topic group mem : List UInt8) (pn n off bp be bq gen : Int) (robin : Bool) (rv tv : Value) (recs : List Rec) (tops : List (List UInt8)) (f a : Bool) (e : Int) (w : World) (hp : Blk w p #[.bool f, .bool a, .int .i64 e] 110) (hq : Blk w q #[.int .i64 5, .string (S topic), .int .i64 pn, .int .i64 n, .int .i64 off, .int .i64 bp, .int .i64 be, .int .i64 bq, rv, .string (S group), .string (S mem), .int .i64 gen, .bool robin, tv] 29) (hpq : p ≠ q)
    (ht : topic.length ≤ maxLen) (hg : group.length ≤ maxLen) (hm : mem.length ≤ maxLen) (hrv : Hid (∀ W, KeptR [p, q] w W → RecsIn W rv recs)) (hrb : RecsBd recs) (htv : Hid (∀ W, KeptR [p, q] w W → TopsIn W tv tops)) (hto : tops.length ≤ 1000000 ∧ ∀ s ∈ tops, s.length ≤ maxLen) :
    VCall 13 #[.iface 108 (.pointer (some ⟨p, 0, none⟩)), .pointer (some ⟨q, 0, none⟩)] w p #[.bool (f || !isName topic), .bool (a || !numB pn), .int .i64 e] 110 q #[.int .i64 5, .string (S []), .int .i64 0, .int .i64 n, .int .i64 off, .int .i64 bp, .int .i64 be, .int .i64 bq, rv, .string (S group), .string (S mem), .int .i64 gen, .bool robin, tv] := by
  refine VCall.intro fun R hR => ?_
  have K0 := Lib.hid (KeptR.refl [p, q] w)
  have HP0 := Lib.hid hp
  have HQ0 := Lib.hid hq
  obtain ⟨kq0, x0⟩ : q < w.heap.size ∧ w.cell? ⟨q, 0, none⟩ = some (.int .i64 5) := ⟨hq.lt, hq.cell 0⟩
  obtain ⟨ra, rc, rfl⟩ := (hrv.out _ (KeptR.refl _ _)).form
  obtain ⟨ta, tc, rfl⟩ := (htv.out _ (KeptR.refl _ _)).form
  clear hp hq
  have n_name := na_c_name
  have m_name := me_c_name
  have n_number := na_c_number
  have m_number := me_c_number
  have n_flag := na_c_flag
  have m_flag := me_c_flag
  have n_batch := na_c_batch
  have m_batch := me_c_batch
  have n_names := na_c_names
  have m_names := me_c_names
  go_enter Tryz.func13, Tryz.ntmps13
  have cc1 := Lib.hid (ck_part p q topic pn _ _ _ _ _ _ _ _ _ _ _ _ _ _ _ w HP0.out HQ0.out hpq ht)
  go_wp2_with fail
  refine cc1.out.use ?_
  intro w1 p1 q1 k1
  have HP1 : Hid (Blk w1 p #[.bool (f || !isName topic), .bool (a || !numB pn), .int .i64 e] 110) := Lib.hid p1
  have HQ1 : Hid (Blk w1 q #[.int .i64 5, .string (S []), .int .i64 0, .int .i64 n, .int .i64 off, .int .i64 bp, .int .i64 be, .int .i64 bq, .slice ra recs.length rc, .string (S group), .string (S mem), .int .i64 gen, .bool robin, .slice ta tops.length tc] 29) := Lib.hid q1
  have K1 := Lib.hid (K0.out.trans k1)
  clear p1 q1 k1
  go_wp2_with fail
  first | refine bodyPost_end (results_none rfl _ _ _) rfl ?_ | refine bodyPost_ret (results_none rfl _ _ _) rfl ?_
  exact hR.out _ HP1.out HQ1.out K1.out
set_option maxHeartbeats 2000000 in
set_option maxRecDepth 100000 in
theorem ck_visit6 (p q : Nat) (topic group mem : List UInt8) (pn n off bp be bq gen : Int) (robin : Bool) (rv tv : Value) (recs : List Rec) (tops : List (List UInt8)) (f a : Bool) (e : Int) (w : World) (hp : Blk w p #[.bool f, .bool a, .int .i64 e] 110) (hq : Blk w q #[.int .i64 6, .string (S topic), .int .i64 pn, .int .i64 n, .int .i64 off, .int .i64 bp, .int .i64 be, .int .i64 bq, rv, .string (S group), .string (S mem), .int .i64 gen, .bool robin, tv] 29) (hpq : p ≠ q)
    (ht : topic.length ≤ maxLen) (hg : group.length ≤ maxLen) (hm : mem.length ≤ maxLen) (hrv : Hid (∀ W, KeptR [p, q] w W → RecsIn W rv recs)) (hrb : RecsBd recs) (htv : Hid (∀ W, KeptR [p, q] w W → TopsIn W tv tops)) (hto : tops.length ≤ 1000000 ∧ ∀ s ∈ tops, s.length ≤ maxLen) :
    VCall 13 #[.iface 108 (.pointer (some ⟨p, 0, none⟩)), .pointer (some ⟨q, 0, none⟩)] w p #[.bool (((f || !isName group) || !isName mem) || !namesOk tops), .bool (a || !numB n), .int .i64 e] 110 q #[.int .i64 6, .string (S topic), .int .i64 pn, .int .i64 0, .int .i64 off, .int .i64 bp, .int .i64 be, .int .i64 bq, rv, .string (S []), .string (S []), .int .i64 gen, .bool false, .slice none 0 0] := by
  refine VCall.intro fun R hR => ?_
  have K0 := Lib.hid (KeptR.refl [p, q] w)
  have HP0 := Lib.hid hp
  have HQ0 := Lib.hid hq
  obtain ⟨kq0, x0⟩ : q < w.heap.size ∧ w.cell? ⟨q, 0, none⟩ = some (.int .i64 6) := ⟨hq.lt, hq.cell 0⟩
  obtain ⟨ra, rc, rfl⟩ := (hrv.out _ (KeptR.refl _ _)).form
  obtain ⟨ta, tc, rfl⟩ := (htv.out _ (KeptR.refl _ _)).form
  clear hp hq
  have n_name := na_c_name
  have m_name := me_c_name
  have n_number := na_c_number
  have m_number := me_c_number
  have n_flag := na_c_flag
  have m_flag := me_c_flag
  have n_batch := na_c_batch
  have m_batch := me_c_batch
  have n_names := na_c_names
  have m_names := me_c_names
  go_enter Tryz.func13, Tryz.ntmps13
  have cc1 := Lib.hid (ck_member p q group mem _ _ _ _ _ _ _ _ _ _ _ _ _ _ _ w HP0.out HQ0.out hpq hg hm)
  go_wp2_with fail
  refine cc1.out.use ?_
  intro w1 p1 q1 k1
  have HP1 : Hid (Blk w1 p #[.bool ((f || !isName group) || !isName mem), .bool a, .int .i64 e] 110) := Lib.hid p1
  have HQ1 : Hid (Blk w1 q #[.int .i64 6, .string (S topic), .int .i64 pn, .int .i64 n, .int .i64 off, .int .i64 bp, .int .i64 be, .int .i64 bq, .slice ra recs.length rc, .string (S []), .string (S []), .int .i64 gen, .bool robin, .slice ta tops.length tc] 29) := Lib.hid q1
  have K1 := Lib.hid (K0.out.trans k1)
  clear p1 q1 k1
  have cc2 := Lib.hid (ck_number p q 3 _ _ _ _ w1.drew n HP1.out HQ1.out hpq rfl)
  go_wp2_with fail
  go_region_with (go_at_call 116; refine cc2.out.use ?_; intro w2 p2 q2 k2)
  have HP2 : Hid (Blk w2 p #[.bool ((f || !isName group) || !isName mem), .bool (a || !numB n), .int .i64 e] 110) := Lib.hid p2
  have HQ2 : Hid (Blk w2 q #[.int .i64 6, .string (S topic), .int .i64 pn, .int .i64 0, .int .i64 off, .int .i64 bp, .int .i64 be, .int .i64 bq, .slice ra recs.length rc, .string (S []), .string (S []), .int .i64 gen, .bool robin, .slice ta tops.length tc] 29) := Lib.hid q2
  have K2 := Lib.hid (K1.out.drew'.trans k2)
  clear p2 q2 k2
  have cc3 := Lib.hid (ck_flag p q 12 _ _ _ _ w2.drew robin HP2.out HQ2.out hpq rfl)
  go_wp2_with fail
  go_region_with (go_at_call 113; refine cc3.out.use ?_; intro w3 p3 q3 k3)
  have HP3 : Hid (Blk w3 p #[.bool ((f || !isName group) || !isName mem), .bool (a || !numB n), .int .i64 e] 110) := Lib.hid p3
  have HQ3 : Hid (Blk w3 q #[.int .i64 6, .string (S topic), .int .i64 pn, .int .i64 0, .int .i64 off, .int .i64 bp, .int .i64 be, .int .i64 bq, .slice ra recs.length rc, .string (S []), .string (S []), .int .i64 gen, .bool false, .slice ta tops.length tc] 29) := Lib.hid q3
  have K3 := Lib.hid (K2.out.drew'.trans k3)
  clear p3 q3 k3
  have TV3 := Lib.hid (htv.out _ K3.out.drew')
  have cc4 := Lib.hid (ck_names p q 13 _ _ _ _ w3.drew _ tops HP3.out HQ3.out hpq rfl TV3.out hto)
  go_wp2_with fail
  go_region_with (go_at_call 115; refine cc4.out.use ?_; intro w4 p4 q4 k4)
  have HP4 : Hid (Blk w4 p #[.bool (((f || !isName group) || !isName mem) || !namesOk tops), .bool (a || !numB n), .int .i64 e] 110) := Lib.hid p4
  have HQ4 : Hid (Blk w4 q #[.int .i64 6, .string (S topic), .int .i64 pn, .int .i64 0, .int .i64 off, .int .i64 bp, .int .i64 be, .int .i64 bq, .slice ra recs.length rc, .string (S []), .string (S []), .int .i64 gen, .bool false, .slice none 0 0] 29) := Lib.hid q4
  have K4 := Lib.hid (K3.out.drew'.trans k4)
  clear p4 q4 k4
  go_wp2_with fail
  first | refine bodyPost_end (results_none rfl _ _ _) rfl ?_ | refine bodyPost_ret (results_none rfl _ _ _) rfl ?_
  exact hR.out _ HP4.out HQ4.out K4.out
set_option maxHeartbeats 2000000 in
set_option maxRecDepth 100000 in
theorem ck_visit7 (p q : Nat) (topic group mem : List UInt8) (pn n off bp be bq gen : Int) (robin : Bool) (rv tv : Value) (recs : List Rec) (tops : List (List UInt8)) (f a : Bool) (e : Int) (w : World) (hp : Blk w p #[.bool f, .bool a, .int .i64 e] 110) (hq : Blk w q #[.int .i64 7, .string (S topic), .int .i64 pn, .int .i64 n, .int .i64 off, .int .i64 bp, .int .i64 be, .int .i64 bq, rv, .string (S group), .string (S mem), .int .i64 gen, .bool robin, tv] 29) (hpq : p ≠ q)
    (ht : topic.length ≤ maxLen) (hg : group.length ≤ maxLen) (hm : mem.length ≤ maxLen) (hrv : Hid (∀ W, KeptR [p, q] w W → RecsIn W rv recs)) (hrb : RecsBd recs) (htv : Hid (∀ W, KeptR [p, q] w W → TopsIn W tv tops)) (hto : tops.length ≤ 1000000 ∧ ∀ s ∈ tops, s.length ≤ maxLen) :
    VCall 13 #[.iface 108 (.pointer (some ⟨p, 0, none⟩)), .pointer (some ⟨q, 0, none⟩)] w p #[.bool ((f || !isName group) || !isName mem), .bool (a || !numB gen), .int .i64 e] 110 q #[.int .i64 7, .string (S topic), .int .i64 pn, .int .i64 n, .int .i64 off, .int .i64 bp, .int .i64 be, .int .i64 bq, rv, .string (S []), .string (S []), .int .i64 0, .bool robin, tv] := by
  refine VCall.intro fun R hR => ?_
  have K0 := Lib.hid (KeptR.refl [p, q] w)
  have HP0 := Lib.hid hp
  have HQ0 := Lib.hid hq
  obtain ⟨kq0, x0⟩ : q < w.heap.size ∧ w.cell? ⟨q, 0, none⟩ = some (.int .i64 7) := ⟨hq.lt, hq.cell 0⟩
  obtain ⟨ra, rc, rfl⟩ := (hrv.out _ (KeptR.refl _ _)).form
  obtain ⟨ta, tc, rfl⟩ := (htv.out _ (KeptR.refl _ _)).form
  clear hp hq
  have n_name := na_c_name
  have m_name := me_c_name
  have n_number := na_c_number
  have m_number := me_c_number
  have n_flag := na_c_flag
  have m_flag := me_c_flag
  have n_batch := na_c_batch
  have m_batch := me_c_batch
  have n_names := na_c_names
  have m_names := me_c_names
  go_enter Tryz.func13, Tryz.ntmps13
  have cc1 := Lib.hid (ck_member p q group mem _ _ _ _ _ _ _ _ _ _ _ _ _ _ _ w HP0.out HQ0.out hpq hg hm)
  go_wp2_with fail
  refine cc1.out.use ?_
  intro w1 p1 q1 k1
  have HP1 : Hid (Blk w1 p #[.bool ((f || !isName group) || !isName mem), .bool a, .int .i64 e] 110) := Lib.hid p1
  have HQ1 : Hid (Blk w1 q #[.int .i64 7, .string (S topic), .int .i64 pn, .int .i64 n, .int .i64 off, .int .i64 bp, .int .i64 be, .int .i64 bq, .slice ra recs.length rc, .string (S []), .string (S []), .int .i64 gen, .bool robin, .slice ta tops.length tc] 29) := Lib.hid q1
  have K1 := Lib.hid (K0.out.trans k1)
  clear p1 q1 k1
  have cc2 := Lib.hid (ck_number p q 11 _ _ _ _ w1.drew gen HP1.out HQ1.out hpq rfl)
  go_wp2_with fail
  go_region_with (go_at_call 116; refine cc2.out.use ?_; intro w2 p2 q2 k2)
  have HP2 : Hid (Blk w2 p #[.bool ((f || !isName group) || !isName mem), .bool (a || !numB gen), .int .i64 e] 110) := Lib.hid p2
  have HQ2 : Hid (Blk w2 q #[.int .i64 7, .string (S topic), .int .i64 pn, .int .i64 n, .int .i64 off, .int .i64 bp, .int .i64 be, .int .i64 bq, .slice ra recs.length rc, .string (S []), .string (S []), .int .i64 0, .bool robin, .slice ta tops.length tc] 29) := Lib.hid q2
  have K2 := Lib.hid (K1.out.drew'.trans k2)
  clear p2 q2 k2
  go_wp2_with fail
  first | refine bodyPost_end (results_none rfl _ _ _) rfl ?_ | refine bodyPost_ret (results_none rfl _ _ _) rfl ?_
  exact hR.out _ HP2.out HQ2.out K2.out
set_option maxHeartbeats 2000000 in
set_option maxRecDepth 100000 in
theorem ck_visit8 (p q : Nat) (topic group mem : List UInt8) (pn n off bp be bq gen : Int) (robin : Bool) (rv tv : Value) (recs : List Rec) (tops : List (List UInt8)) (f a : Bool) (e : Int) (w : World) (hp : Blk w p #[.bool f, .bool a, .int .i64 e] 110) (hq : Blk w q #[.int .i64 8, .string (S topic), .int .i64 pn, .int .i64 n, .int .i64 off, .int .i64 bp, .int .i64 be, .int .i64 bq, rv, .string (S group), .string (S mem), .int .i64 gen, .bool robin, tv] 29) (hpq : p ≠ q)
    (ht : topic.length ≤ maxLen) (hg : group.length ≤ maxLen) (hm : mem.length ≤ maxLen) (hrv : Hid (∀ W, KeptR [p, q] w W → RecsIn W rv recs)) (hrb : RecsBd recs) (htv : Hid (∀ W, KeptR [p, q] w W → TopsIn W tv tops)) (hto : tops.length ≤ 1000000 ∧ ∀ s ∈ tops, s.length ≤ maxLen) :
    VCall 13 #[.iface 108 (.pointer (some ⟨p, 0, none⟩)), .pointer (some ⟨q, 0, none⟩)] w p #[.bool ((f || !isName group) || !isName mem), .bool (a || !numB gen), .int .i64 e] 110 q #[.int .i64 8, .string (S topic), .int .i64 pn, .int .i64 n, .int .i64 off, .int .i64 bp, .int .i64 be, .int .i64 bq, rv, .string (S []), .string (S []), .int .i64 0, .bool robin, tv] := by
  refine VCall.intro fun R hR => ?_
  have K0 := Lib.hid (KeptR.refl [p, q] w)
  have HP0 := Lib.hid hp
  have HQ0 := Lib.hid hq
  obtain ⟨kq0, x0⟩ : q < w.heap.size ∧ w.cell? ⟨q, 0, none⟩ = some (.int .i64 8) := ⟨hq.lt, hq.cell 0⟩
  obtain ⟨ra, rc, rfl⟩ := (hrv.out _ (KeptR.refl _ _)).form
  obtain ⟨ta, tc, rfl⟩ := (htv.out _ (KeptR.refl _ _)).form
  clear hp hq
  have n_name := na_c_name
  have m_name := me_c_name
  have n_number := na_c_number
  have m_number := me_c_number
  have n_flag := na_c_flag
  have m_flag := me_c_flag
  have n_batch := na_c_batch
  have m_batch := me_c_batch
  have n_names := na_c_names
  have m_names := me_c_names
  go_enter Tryz.func13, Tryz.ntmps13
  have cc1 := Lib.hid (ck_member p q group mem _ _ _ _ _ _ _ _ _ _ _ _ _ _ _ w HP0.out HQ0.out hpq hg hm)
  go_wp2_with fail
  refine cc1.out.use ?_
  intro w1 p1 q1 k1
  have HP1 : Hid (Blk w1 p #[.bool ((f || !isName group) || !isName mem), .bool a, .int .i64 e] 110) := Lib.hid p1
  have HQ1 : Hid (Blk w1 q #[.int .i64 8, .string (S topic), .int .i64 pn, .int .i64 n, .int .i64 off, .int .i64 bp, .int .i64 be, .int .i64 bq, .slice ra recs.length rc, .string (S []), .string (S []), .int .i64 gen, .bool robin, .slice ta tops.length tc] 29) := Lib.hid q1
  have K1 := Lib.hid (K0.out.trans k1)
  clear p1 q1 k1
  have cc2 := Lib.hid (ck_number p q 11 _ _ _ _ w1.drew gen HP1.out HQ1.out hpq rfl)
  go_wp2_with fail
  go_region_with (go_at_call 116; refine cc2.out.use ?_; intro w2 p2 q2 k2)
  have HP2 : Hid (Blk w2 p #[.bool ((f || !isName group) || !isName mem), .bool (a || !numB gen), .int .i64 e] 110) := Lib.hid p2
  have HQ2 : Hid (Blk w2 q #[.int .i64 8, .string (S topic), .int .i64 pn, .int .i64 n, .int .i64 off, .int .i64 bp, .int .i64 be, .int .i64 bq, .slice ra recs.length rc, .string (S []), .string (S []), .int .i64 0, .bool robin, .slice ta tops.length tc] 29) := Lib.hid q2
  have K2 := Lib.hid (K1.out.drew'.trans k2)
  clear p2 q2 k2
  go_wp2_with fail
  first | refine bodyPost_end (results_none rfl _ _ _) rfl ?_ | refine bodyPost_ret (results_none rfl _ _ _) rfl ?_
  exact hR.out _ HP2.out HQ2.out K2.out
set_option maxHeartbeats 2000000 in
set_option maxRecDepth 100000 in
theorem ck_visit9 (p q : Nat) (topic group mem : List UInt8) (pn n off bp be bq gen : Int) (robin : Bool) (rv tv : Value) (recs : List Rec) (tops : List (List UInt8)) (f a : Bool) (e : Int) (w : World) (hp : Blk w p #[.bool f, .bool a, .int .i64 e] 110) (hq : Blk w q #[.int .i64 9, .string (S topic), .int .i64 pn, .int .i64 n, .int .i64 off, .int .i64 bp, .int .i64 be, .int .i64 bq, rv, .string (S group), .string (S mem), .int .i64 gen, .bool robin, tv] 29) (hpq : p ≠ q)
    (ht : topic.length ≤ maxLen) (hg : group.length ≤ maxLen) (hm : mem.length ≤ maxLen) (hrv : Hid (∀ W, KeptR [p, q] w W → RecsIn W rv recs)) (hrb : RecsBd recs) (htv : Hid (∀ W, KeptR [p, q] w W → TopsIn W tv tops)) (hto : tops.length ≤ 1000000 ∧ ∀ s ∈ tops, s.length ≤ maxLen) :
    VCall 13 #[.iface 108 (.pointer (some ⟨p, 0, none⟩)), .pointer (some ⟨q, 0, none⟩)] w p #[.bool ((f || !isName group) || !isName mem), .bool (a || !numB gen), .int .i64 e] 110 q #[.int .i64 9, .string (S topic), .int .i64 pn, .int .i64 n, .int .i64 off, .int .i64 bp, .int .i64 be, .int .i64 bq, rv, .string (S []), .string (S []), .int .i64 0, .bool robin, tv] := by
  refine VCall.intro fun R hR => ?_
  have K0 := Lib.hid (KeptR.refl [p, q] w)
  have HP0 := Lib.hid hp
  have HQ0 := Lib.hid hq
  obtain ⟨kq0, x0⟩ : q < w.heap.size ∧ w.cell? ⟨q, 0, none⟩ = some (.int .i64 9) := ⟨hq.lt, hq.cell 0⟩
  obtain ⟨ra, rc, rfl⟩ := (hrv.out _ (KeptR.refl _ _)).form
  obtain ⟨ta, tc, rfl⟩ := (htv.out _ (KeptR.refl _ _)).form
  clear hp hq
  have n_name := na_c_name
  have m_name := me_c_name
  have n_number := na_c_number
  have m_number := me_c_number
  have n_flag := na_c_flag
  have m_flag := me_c_flag
  have n_batch := na_c_batch
  have m_batch := me_c_batch
  have n_names := na_c_names
  have m_names := me_c_names
  go_enter Tryz.func13, Tryz.ntmps13
  have cc1 := Lib.hid (ck_member p q group mem _ _ _ _ _ _ _ _ _ _ _ _ _ _ _ w HP0.out HQ0.out hpq hg hm)
  go_wp2_with fail
  refine cc1.out.use ?_
  intro w1 p1 q1 k1
  have HP1 : Hid (Blk w1 p #[.bool ((f || !isName group) || !isName mem), .bool a, .int .i64 e] 110) := Lib.hid p1
  have HQ1 : Hid (Blk w1 q #[.int .i64 9, .string (S topic), .int .i64 pn, .int .i64 n, .int .i64 off, .int .i64 bp, .int .i64 be, .int .i64 bq, .slice ra recs.length rc, .string (S []), .string (S []), .int .i64 gen, .bool robin, .slice ta tops.length tc] 29) := Lib.hid q1
  have K1 := Lib.hid (K0.out.trans k1)
  clear p1 q1 k1
  have cc2 := Lib.hid (ck_number p q 11 _ _ _ _ w1.drew gen HP1.out HQ1.out hpq rfl)
  go_wp2_with fail
  go_region_with (go_at_call 116; refine cc2.out.use ?_; intro w2 p2 q2 k2)
  have HP2 : Hid (Blk w2 p #[.bool ((f || !isName group) || !isName mem), .bool (a || !numB gen), .int .i64 e] 110) := Lib.hid p2
  have HQ2 : Hid (Blk w2 q #[.int .i64 9, .string (S topic), .int .i64 pn, .int .i64 n, .int .i64 off, .int .i64 bp, .int .i64 be, .int .i64 bq, .slice ra recs.length rc, .string (S []), .string (S []), .int .i64 0, .bool robin, .slice ta tops.length tc] 29) := Lib.hid q2
  have K2 := Lib.hid (K1.out.drew'.trans k2)
  clear p2 q2 k2
  go_wp2_with fail
  first | refine bodyPost_end (results_none rfl _ _ _) rfl ?_ | refine bodyPost_ret (results_none rfl _ _ _) rfl ?_
  exact hR.out _ HP2.out HQ2.out K2.out
set_option maxHeartbeats 2000000 in
set_option maxRecDepth 100000 in
theorem ck_visit10 (p q : Nat) (topic group mem : List UInt8) (pn n off bp be bq gen : Int) (robin : Bool) (rv tv : Value) (recs : List Rec) (tops : List (List UInt8)) (f a : Bool) (e : Int) (w : World) (hp : Blk w p #[.bool f, .bool a, .int .i64 e] 110) (hq : Blk w q #[.int .i64 10, .string (S topic), .int .i64 pn, .int .i64 n, .int .i64 off, .int .i64 bp, .int .i64 be, .int .i64 bq, rv, .string (S group), .string (S mem), .int .i64 gen, .bool robin, tv] 29) (hpq : p ≠ q)
    (ht : topic.length ≤ maxLen) (hg : group.length ≤ maxLen) (hm : mem.length ≤ maxLen) (hrv : Hid (∀ W, KeptR [p, q] w W → RecsIn W rv recs)) (hrb : RecsBd recs) (htv : Hid (∀ W, KeptR [p, q] w W → TopsIn W tv tops)) (hto : tops.length ≤ 1000000 ∧ ∀ s ∈ tops, s.length ≤ maxLen) :
    VCall 13 #[.iface 108 (.pointer (some ⟨p, 0, none⟩)), .pointer (some ⟨q, 0, none⟩)] w p #[.bool (((f || !isName group) || !isName mem) || !isName topic), .bool (((a || !numB gen) || !numB pn) || !numB off), .int .i64 e] 110 q #[.int .i64 10, .string (S []), .int .i64 0, .int .i64 n, .int .i64 0, .int .i64 bp, .int .i64 be, .int .i64 bq, rv, .string (S []), .string (S []), .int .i64 0, .bool robin, tv] := by
  refine VCall.intro fun R hR => ?_
  have K0 := Lib.hid (KeptR.refl [p, q] w)
  have HP0 := Lib.hid hp
  have HQ0 := Lib.hid hq
  obtain ⟨kq0, x0⟩ : q < w.heap.size ∧ w.cell? ⟨q, 0, none⟩ = some (.int .i64 10) := ⟨hq.lt, hq.cell 0⟩
  obtain ⟨ra, rc, rfl⟩ := (hrv.out _ (KeptR.refl _ _)).form
  obtain ⟨ta, tc, rfl⟩ := (htv.out _ (KeptR.refl _ _)).form
  clear hp hq
  have n_name := na_c_name
  have m_name := me_c_name
  have n_number := na_c_number
  have m_number := me_c_number
  have n_flag := na_c_flag
  have m_flag := me_c_flag
  have n_batch := na_c_batch
  have m_batch := me_c_batch
  have n_names := na_c_names
  have m_names := me_c_names
  go_enter Tryz.func13, Tryz.ntmps13
  have cc1 := Lib.hid (ck_member p q group mem _ _ _ _ _ _ _ _ _ _ _ _ _ _ _ w HP0.out HQ0.out hpq hg hm)
  go_wp2_with fail
  refine cc1.out.use ?_
  intro w1 p1 q1 k1
  have HP1 : Hid (Blk w1 p #[.bool ((f || !isName group) || !isName mem), .bool a, .int .i64 e] 110) := Lib.hid p1
  have HQ1 : Hid (Blk w1 q #[.int .i64 10, .string (S topic), .int .i64 pn, .int .i64 n, .int .i64 off, .int .i64 bp, .int .i64 be, .int .i64 bq, .slice ra recs.length rc, .string (S []), .string (S []), .int .i64 gen, .bool robin, .slice ta tops.length tc] 29) := Lib.hid q1
  have K1 := Lib.hid (K0.out.trans k1)
  clear p1 q1 k1
  have cc2 := Lib.hid (ck_number p q 11 _ _ _ _ w1.drew gen HP1.out HQ1.out hpq rfl)
  go_wp2_with fail
  go_region_with (go_at_call 116; refine cc2.out.use ?_; intro w2 p2 q2 k2)
  have HP2 : Hid (Blk w2 p #[.bool ((f || !isName group) || !isName mem), .bool (a || !numB gen), .int .i64 e] 110) := Lib.hid p2
  have HQ2 : Hid (Blk w2 q #[.int .i64 10, .string (S topic), .int .i64 pn, .int .i64 n, .int .i64 off, .int .i64 bp, .int .i64 be, .int .i64 bq, .slice ra recs.length rc, .string (S []), .string (S []), .int .i64 0, .bool robin, .slice ta tops.length tc] 29) := Lib.hid q2
  have K2 := Lib.hid (K1.out.drew'.trans k2)
  clear p2 q2 k2
  have cc3 := Lib.hid (ck_part p q topic pn _ _ _ _ _ _ _ _ _ _ _ _ _ _ _ w2 HP2.out HQ2.out hpq ht)
  go_wp2_with fail
  refine cc3.out.use ?_
  intro w3 p3 q3 k3
  have HP3 : Hid (Blk w3 p #[.bool (((f || !isName group) || !isName mem) || !isName topic), .bool ((a || !numB gen) || !numB pn), .int .i64 e] 110) := Lib.hid p3
  have HQ3 : Hid (Blk w3 q #[.int .i64 10, .string (S []), .int .i64 0, .int .i64 n, .int .i64 off, .int .i64 bp, .int .i64 be, .int .i64 bq, .slice ra recs.length rc, .string (S []), .string (S []), .int .i64 0, .bool robin, .slice ta tops.length tc] 29) := Lib.hid q3
  have K3 := Lib.hid (K2.out.trans k3)
  clear p3 q3 k3
  have cc4 := Lib.hid (ck_number p q 4 _ _ _ _ w3.drew off HP3.out HQ3.out hpq rfl)
  go_wp2_with fail
  go_region_with (go_at_call 116; refine cc4.out.use ?_; intro w4 p4 q4 k4)
  have HP4 : Hid (Blk w4 p #[.bool (((f || !isName group) || !isName mem) || !isName topic), .bool (((a || !numB gen) || !numB pn) || !numB off), .int .i64 e] 110) := Lib.hid p4
  have HQ4 : Hid (Blk w4 q #[.int .i64 10, .string (S []), .int .i64 0, .int .i64 n, .int .i64 0, .int .i64 bp, .int .i64 be, .int .i64 bq, .slice ra recs.length rc, .string (S []), .string (S []), .int .i64 0, .bool robin, .slice ta tops.length tc] 29) := Lib.hid q4
  have K4 := Lib.hid (K3.out.drew'.trans k4)
  clear p4 q4 k4
  go_wp2_with fail
  first | refine bodyPost_end (results_none rfl _ _ _) rfl ?_ | refine bodyPost_ret (results_none rfl _ _ _) rfl ?_
  exact hR.out _ HP4.out HQ4.out K4.out
set_option maxHeartbeats 2000000 in
set_option maxRecDepth 100000 in
theorem ck_visit11 (p q : Nat) (topic group mem : List UInt8) (pn n off bp be bq gen : Int) (robin : Bool) (rv tv : Value) (recs : List Rec) (tops : List (List UInt8)) (f a : Bool) (e : Int) (w : World) (hp : Blk w p #[.bool f, .bool a, .int .i64 e] 110) (hq : Blk w q #[.int .i64 11, .string (S topic), .int .i64 pn, .int .i64 n, .int .i64 off, .int .i64 bp, .int .i64 be, .int .i64 bq, rv, .string (S group), .string (S mem), .int .i64 gen, .bool robin, tv] 29) (hpq : p ≠ q)
    (ht : topic.length ≤ maxLen) (hg : group.length ≤ maxLen) (hm : mem.length ≤ maxLen) (hrv : Hid (∀ W, KeptR [p, q] w W → RecsIn W rv recs)) (hrb : RecsBd recs) (htv : Hid (∀ W, KeptR [p, q] w W → TopsIn W tv tops)) (hto : tops.length ≤ 1000000 ∧ ∀ s ∈ tops, s.length ≤ maxLen) :
    VCall 13 #[.iface 108 (.pointer (some ⟨p, 0, none⟩)), .pointer (some ⟨q, 0, none⟩)] w p #[.bool ((f || !isName group) || !isName topic), .bool (a || !numB pn), .int .i64 e] 110 q #[.int .i64 11, .string (S []), .int .i64 0, .int .i64 n, .int .i64 off, .int .i64 bp, .int .i64 be, .int .i64 bq, rv, .string (S []), .string (S mem), .int .i64 gen, .bool robin, tv] := by
  refine VCall.intro fun R hR => ?_
  have K0 := Lib.hid (KeptR.refl [p, q] w)
  have HP0 := Lib.hid hp
  have HQ0 := Lib.hid hq
  obtain ⟨kq0, x0⟩ : q < w.heap.size ∧ w.cell? ⟨q, 0, none⟩ = some (.int .i64 11) := ⟨hq.lt, hq.cell 0⟩
  obtain ⟨ra, rc, rfl⟩ := (hrv.out _ (KeptR.refl _ _)).form
  obtain ⟨ta, tc, rfl⟩ := (htv.out _ (KeptR.refl _ _)).form
  clear hp hq
  have n_name := na_c_name
  have m_name := me_c_name
  have n_number := na_c_number
  have m_number := me_c_number
  have n_flag := na_c_flag
  have m_flag := me_c_flag
  have n_batch := na_c_batch
  have m_batch := me_c_batch
  have n_names := na_c_names
  have m_names := me_c_names
  go_enter Tryz.func13, Tryz.ntmps13
  have cc1 := Lib.hid (ck_name p q 9 _ _ _ _ w.drew group HP0.out HQ0.out hpq rfl hg)
  go_wp2_with fail
  go_region_with (go_at_call 114; refine cc1.out.use ?_; intro w1 p1 q1 k1)
  have HP1 : Hid (Blk w1 p #[.bool (f || !isName group), .bool a, .int .i64 e] 110) := Lib.hid p1
  have HQ1 : Hid (Blk w1 q #[.int .i64 11, .string (S topic), .int .i64 pn, .int .i64 n, .int .i64 off, .int .i64 bp, .int .i64 be, .int .i64 bq, .slice ra recs.length rc, .string (S []), .string (S mem), .int .i64 gen, .bool robin, .slice ta tops.length tc] 29) := Lib.hid q1
  have K1 := Lib.hid (K0.out.drew'.trans k1)
  clear p1 q1 k1
  have cc2 := Lib.hid (ck_part p q topic pn _ _ _ _ _ _ _ _ _ _ _ _ _ _ _ w1 HP1.out HQ1.out hpq ht)
  go_wp2_with fail
  refine cc2.out.use ?_
  intro w2 p2 q2 k2
  have HP2 : Hid (Blk w2 p #[.bool ((f || !isName group) || !isName topic), .bool (a || !numB pn), .int .i64 e] 110) := Lib.hid p2
  have HQ2 : Hid (Blk w2 q #[.int .i64 11, .string (S []), .int .i64 0, .int .i64 n, .int .i64 off, .int .i64 bp, .int .i64 be, .int .i64 bq, .slice ra recs.length rc, .string (S []), .string (S mem), .int .i64 gen, .bool robin, .slice ta tops.length tc] 29) := Lib.hid q2
  have K2 := Lib.hid (K1.out.trans k2)
  clear p2 q2 k2
  go_wp2_with fail
  first | refine bodyPost_end (results_none rfl _ _ _) rfl ?_ | refine bodyPost_ret (results_none rfl _ _ _) rfl ?_
  exact hR.out _ HP2.out HQ2.out K2.out
set_option maxHeartbeats 2000000 in
set_option maxRecDepth 100000 in
theorem ck_visit12 (p q : Nat) (topic group mem : List UInt8) (pn n off bp be bq gen : Int) (robin : Bool) (rv tv : Value) (recs : List Rec) (tops : List (List UInt8)) (f a : Bool) (e : Int) (w : World) (hp : Blk w p #[.bool f, .bool a, .int .i64 e] 110) (hq : Blk w q #[.int .i64 12, .string (S topic), .int .i64 pn, .int .i64 n, .int .i64 off, .int .i64 bp, .int .i64 be, .int .i64 bq, rv, .string (S group), .string (S mem), .int .i64 gen, .bool robin, tv] 29) (hpq : p ≠ q)
    (ht : topic.length ≤ maxLen) (hg : group.length ≤ maxLen) (hm : mem.length ≤ maxLen) (hrv : Hid (∀ W, KeptR [p, q] w W → RecsIn W rv recs)) (hrb : RecsBd recs) (htv : Hid (∀ W, KeptR [p, q] w W → TopsIn W tv tops)) (hto : tops.length ≤ 1000000 ∧ ∀ s ∈ tops, s.length ≤ maxLen) :
    VCall 13 #[.iface 108 (.pointer (some ⟨p, 0, none⟩)), .pointer (some ⟨q, 0, none⟩)] w p #[.bool f, .bool (a || !numB n), .int .i64 e] 110 q #[.int .i64 12, .string (S topic), .int .i64 pn, .int .i64 0, .int .i64 off, .int .i64 bp, .int .i64 be, .int .i64 bq, rv, .string (S group), .string (S mem), .int .i64 gen, .bool robin, tv] := by
  refine VCall.intro fun R hR => ?_
  have K0 := Lib.hid (KeptR.refl [p, q] w)
  have HP0 := Lib.hid hp
  have HQ0 := Lib.hid hq
  obtain ⟨kq0, x0⟩ : q < w.heap.size ∧ w.cell? ⟨q, 0, none⟩ = some (.int .i64 12) := ⟨hq.lt, hq.cell 0⟩
  obtain ⟨ra, rc, rfl⟩ := (hrv.out _ (KeptR.refl _ _)).form
  obtain ⟨ta, tc, rfl⟩ := (htv.out _ (KeptR.refl _ _)).form
  clear hp hq
  have n_name := na_c_name
  have m_name := me_c_name
  have n_number := na_c_number
  have m_number := me_c_number
  have n_flag := na_c_flag
  have m_flag := me_c_flag
  have n_batch := na_c_batch
  have m_batch := me_c_batch
  have n_names := na_c_names
  have m_names := me_c_names
  go_enter Tryz.func13, Tryz.ntmps13
  have cc1 := Lib.hid (ck_number p q 3 _ _ _ _ w.drew n HP0.out HQ0.out hpq rfl)
  go_wp2_with fail
  go_region_with (go_at_call 116; refine cc1.out.use ?_; intro w1 p1 q1 k1)
  have HP1 : Hid (Blk w1 p #[.bool f, .bool (a || !numB n), .int .i64 e] 110) := Lib.hid p1
  have HQ1 : Hid (Blk w1 q #[.int .i64 12, .string (S topic), .int .i64 pn, .int .i64 0, .int .i64 off, .int .i64 bp, .int .i64 be, .int .i64 bq, .slice ra recs.length rc, .string (S group), .string (S mem), .int .i64 gen, .bool robin, .slice ta tops.length tc] 29) := Lib.hid q1
  have K1 := Lib.hid (K0.out.drew'.trans k1)
  clear p1 q1 k1
  go_wp2_with fail
  first | refine bodyPost_end (results_none rfl _ _ _) rfl ?_ | refine bodyPost_ret (results_none rfl _ _ _) rfl ?_
  exact hR.out _ HP1.out HQ1.out K1.out
end Go.Proofs.YthiliodmbipikaaGreat
