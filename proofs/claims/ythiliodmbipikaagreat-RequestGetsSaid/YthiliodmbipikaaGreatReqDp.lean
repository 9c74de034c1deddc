/-
  Layer 4, the document: what a letter stands for, as bytes; a command's bytes.
-/
import Derived.Test.YthiliodmbipikaaGreatReqDc
import Derived.Test.YthiliodmbipikaaGreatReqI1
import Derived.Test.YthiliodmbipikaaGreatReqW1
import Derived.Test.YthiliodmbipikaaGreatRecF
set_option linter.unusedVariables false
set_option linter.unusedSimpArgs false
namespace Go.Proofs.YthiliodmbipikaaGreat
open Go.RowKit
attribute [local go_sem] ByteArray.extract_mk ByteArray.mk_append_mk

/-- A whole struct loaded. -/
def aggload_blk0 : TypeDesc → Bool
  | .struct _ => true
  | .array _ _ => true
  | _ => false
theorem load_blk0 {w : World} {a : Act} {o : Oper} {b : Nat} {cs : Array Value} {T : TypeId} {x : Operand} {d : TypeDesc} (h : Blk w b cs T) (ho : o.op = .load T x) (hx : a.eval x = .pointer (some ⟨b, 0, none⟩))
    (hu : Tryz.prog.underlying T = some d) (hd : aggload_blk0 d = true) (hi : (Tryz.prog.info? T).map (·.size) = some cs.size) :
    (execOp a.eval o).run Tryz.prog w = .ok (.value (.agg cs)) w := by
  unfold execOp
  simp only [ho, hx, Instr.loadAt, Instr.sureAddr, Sem.run_bind, Sem.run_pure, Result.andThen_ok, run_loadVar_row w b T T cs (0, 0) d h hu (by cases d <;> first | rfl | (exact hd)) hi]
theorem start1d (w : World) (A1 : Array Value) (T1 : TypeId) : ∃ W0, w.alloc (.cells A1 T1) = W0 ∧ Below w.heap.size w W0 ∧ Blk W0 w.heap.size A1 T1 ∧ W0.heap.size = w.heap.size + 1 :=
  ⟨_, rfl, below_all (Below.refl _ _), Blk.new w _ _, by simp⟩
set_option maxHeartbeats 4000000 in
set_option maxRecDepth 100000 in
theorem one_t (w : World) (kind : Int) (topic group mem : List UInt8) (pn n off gen : Nat) (bp be bq : Int) (robin : Bool) (ra ta : Option Addr) (rc tc : Nat) (recs : List Rec) (tops : List (List UInt8)) (h1 : topic.length ≤ 16) (h2 : group.length ≤ 16) (h3 : mem.length ≤ 16) (n1 : pn ≤ 1099511627776) (n2 : n ≤ 1099511627776) (n3 : off ≤ 1099511627776) (n4 : gen ≤ 1099511627776) (hrin : Hid (∀ W, Below w.heap.size w W → RecsIn W (.slice ra recs.length rc) recs)) (hrb : RecsBd recs) (htin : Hid (∀ W, Below w.heap.size w W → TopsIn W (.slice ta tops.length tc) tops)) (ht : tops.length ≤ 8 ∧ ∀ s ∈ tops, s.length ≤ 16) :
    RetB Tryz.prog 29 #[.agg #[.int .i64 kind, .string (S topic), .int .i64 (pn : Nat), .int .i64 (n : Nat), .int .i64 (off : Nat), .int .i64 bp, .int .i64 be, .int .i64 bq, .slice ra recs.length rc, .string (S group), .string (S mem), .int .i64 (gen : Nat), .bool robin, .slice ta tops.length tc], .int .u8 116] w (.string (S (vtxt topic))) := by
  refine RetB.intro fun R hR => ?_
  obtain ⟨W0, hW0, B0, q0, sz0⟩ := start1d w #[.int .i64 kind, .string (S topic), .int .i64 (pn : Nat), .int .i64 (n : Nat), .int .i64 (off : Nat), .int .i64 bp, .int .i64 be, .int .i64 bq, .slice ra recs.length rc, .string (S group), .string (S mem), .int .i64 (gen : Nat), .bool robin, .slice ta tops.length tc] 29
  have BB := Lib.hid B0
  have QQ := Lib.hid q0
  obtain ⟨HX, kx, x0, x1, x2, x3, x4, x5, x6, x7, x8, x9, x10, x11, x12, x13⟩ := arr_cellsD q0
  clear B0 q0 sz0
  go_enter Tryz.func29, Tryz.ntmps29
  go_upto_region 1 with fail
  try rw [hW0]
  clear hW0
  have cc := Lib.hid (fun w => rtext_any topic w (by omega))
  clear h1 h2 h3 n1 n2 n3 n4 hrin hrb htin ht
  go_wp2_with fail
  refine (cc.out _).use ?_
  intro w1 b1
  go_wp2_with fail
  exact finB hR (below_any (Nat.le_refl _) BB.out b1) rfl
set_option maxHeartbeats 4000000 in
set_option maxRecDepth 100000 in
theorem one_p (w : World) (kind : Int) (topic group mem : List UInt8) (pn n off gen : Nat) (bp be bq : Int) (robin : Bool) (ra ta : Option Addr) (rc tc : Nat) (recs : List Rec) (tops : List (List UInt8)) (h1 : topic.length ≤ 16) (h2 : group.length ≤ 16) (h3 : mem.length ≤ 16) (n1 : pn ≤ 1099511627776) (n2 : n ≤ 1099511627776) (n3 : off ≤ 1099511627776) (n4 : gen ≤ 1099511627776) (hrin : Hid (∀ W, Below w.heap.size w W → RecsIn W (.slice ra recs.length rc) recs)) (hrb : RecsBd recs) (htin : Hid (∀ W, Below w.heap.size w W → TopsIn W (.slice ta tops.length tc) tops)) (ht : tops.length ≤ 8 ∧ ∀ s ∈ tops, s.length ≤ 16) :
    RetB Tryz.prog 29 #[.agg #[.int .i64 kind, .string (S topic), .int .i64 (pn : Nat), .int .i64 (n : Nat), .int .i64 (off : Nat), .int .i64 bp, .int .i64 be, .int .i64 bq, .slice ra recs.length rc, .string (S group), .string (S mem), .int .i64 (gen : Nat), .bool robin, .slice ta tops.length tc], .int .u8 112] w (.string (S (vtxt topic ++ vput pn))) := by
  refine RetB.intro fun R hR => ?_
  obtain ⟨W0, hW0, B0, q0, sz0⟩ := start1d w #[.int .i64 kind, .string (S topic), .int .i64 (pn : Nat), .int .i64 (n : Nat), .int .i64 (off : Nat), .int .i64 bp, .int .i64 be, .int .i64 bq, .slice ra recs.length rc, .string (S group), .string (S mem), .int .i64 (gen : Nat), .bool robin, .slice ta tops.length tc] 29
  have BB := Lib.hid B0
  have QQ := Lib.hid q0
  obtain ⟨HX, kx, x0, x1, x2, x3, x4, x5, x6, x7, x8, x9, x10, x11, x12, x13⟩ := arr_cellsD q0
  clear B0 q0 sz0
  go_enter Tryz.func29, Tryz.ntmps29
  go_upto_region 1 with fail
  try rw [hW0]
  clear hW0
  have c1 := Lib.hid (fun w => rtext_any topic w (by omega))
  have c2 := Lib.hid (fun w => rnum_put pn w n1)
  have l1 := vtxt_le topic
  have l2 := vput_le pn
  have g1 : ¬ 9223372036854775807 < (vtxt topic).length + (vput pn).length := by omega
  clear h1 h2 h3 n1 n2 n3 n4 hrin hrb htin ht l1 l2
  go_upto_region 5 with fail
  go_region_held3 (fun w' => w'.cell? ⟨w.heap.size, 1, none⟩ = some (.string (S topic)) ∧ w'.cell? ⟨w.heap.size, 2, none⟩ = some (.int .i64 (pn : Nat))) (go_keep) (first | (go_at_call 58; refine (c1.out _).use ?_; intro w1 b1; have P1 := below_any (Nat.le_refl _) BB.out.drew b1; have a1 := b1.cell (p := ⟨w.heap.size, 1, none⟩) kx; have a2 := b1.cell (p := ⟨w.heap.size, 2, none⟩) kx; have ks := b1.size) | (go_at_call 28; refine (c2.out _).use ?_; intro w2 b2; have P2 := below_any (Nat.le_refl _) P1 b2; have a3 := b2.cell (p := ⟨w.heap.size, 1, none⟩) (Nat.lt_of_lt_of_le kx ks); have a4 := b2.cell (p := ⟨w.heap.size, 2, none⟩) (Nat.lt_of_lt_of_le kx ks)))
  all_goals go_wp2_with fail
  all_goals exact finB hR P2 rfl
set_option maxHeartbeats 4000000 in
set_option maxRecDepth 100000 in
theorem one_n (w : World) (kind : Int) (topic group mem : List UInt8) (pn n off gen : Nat) (bp be bq : Int) (robin : Bool) (ra ta : Option Addr) (rc tc : Nat) (recs : List Rec) (tops : List (List UInt8)) (h1 : topic.length ≤ 16) (h2 : group.length ≤ 16) (h3 : mem.length ≤ 16) (n1 : pn ≤ 1099511627776) (n2 : n ≤ 1099511627776) (n3 : off ≤ 1099511627776) (n4 : gen ≤ 1099511627776) (hrin : Hid (∀ W, Below w.heap.size w W → RecsIn W (.slice ra recs.length rc) recs)) (hrb : RecsBd recs) (htin : Hid (∀ W, Below w.heap.size w W → TopsIn W (.slice ta tops.length tc) tops)) (ht : tops.length ≤ 8 ∧ ∀ s ∈ tops, s.length ≤ 16) :
    RetB Tryz.prog 29 #[.agg #[.int .i64 kind, .string (S topic), .int .i64 (pn : Nat), .int .i64 (n : Nat), .int .i64 (off : Nat), .int .i64 bp, .int .i64 be, .int .i64 bq, .slice ra recs.length rc, .string (S group), .string (S mem), .int .i64 (gen : Nat), .bool robin, .slice ta tops.length tc], .int .u8 110] w (.string (S (vput n))) := by
  refine RetB.intro fun R hR => ?_
  obtain ⟨W0, hW0, B0, q0, sz0⟩ := start1d w #[.int .i64 kind, .string (S topic), .int .i64 (pn : Nat), .int .i64 (n : Nat), .int .i64 (off : Nat), .int .i64 bp, .int .i64 be, .int .i64 bq, .slice ra recs.length rc, .string (S group), .string (S mem), .int .i64 (gen : Nat), .bool robin, .slice ta tops.length tc] 29
  have BB := Lib.hid B0
  have QQ := Lib.hid q0
  obtain ⟨HX, kx, x0, x1, x2, x3, x4, x5, x6, x7, x8, x9, x10, x11, x12, x13⟩ := arr_cellsD q0
  clear B0 q0 sz0
  go_enter Tryz.func29, Tryz.ntmps29
  go_upto_region 1 with fail
  try rw [hW0]
  clear hW0
  have cc := Lib.hid (fun w => rnum_put n w n2)
  clear h1 h2 h3 n1 n2 n3 n4 hrin hrb htin ht
  go_wp2_with fail
  refine (cc.out _).use ?_
  intro w1 b1
  go_wp2_with fail
  exact finB hR (below_any (Nat.le_refl _) BB.out b1) rfl
set_option maxHeartbeats 4000000 in
set_option maxRecDepth 100000 in
theorem one_o (w : World) (kind : Int) (topic group mem : List UInt8) (pn n off gen : Nat) (bp be bq : Int) (robin : Bool) (ra ta : Option Addr) (rc tc : Nat) (recs : List Rec) (tops : List (List UInt8)) (h1 : topic.length ≤ 16) (h2 : group.length ≤ 16) (h3 : mem.length ≤ 16) (n1 : pn ≤ 1099511627776) (n2 : n ≤ 1099511627776) (n3 : off ≤ 1099511627776) (n4 : gen ≤ 1099511627776) (hrin : Hid (∀ W, Below w.heap.size w W → RecsIn W (.slice ra recs.length rc) recs)) (hrb : RecsBd recs) (htin : Hid (∀ W, Below w.heap.size w W → TopsIn W (.slice ta tops.length tc) tops)) (ht : tops.length ≤ 8 ∧ ∀ s ∈ tops, s.length ≤ 16) :
    RetB Tryz.prog 29 #[.agg #[.int .i64 kind, .string (S topic), .int .i64 (pn : Nat), .int .i64 (n : Nat), .int .i64 (off : Nat), .int .i64 bp, .int .i64 be, .int .i64 bq, .slice ra recs.length rc, .string (S group), .string (S mem), .int .i64 (gen : Nat), .bool robin, .slice ta tops.length tc], .int .u8 111] w (.string (S (vput off))) := by
  refine RetB.intro fun R hR => ?_
  obtain ⟨W0, hW0, B0, q0, sz0⟩ := start1d w #[.int .i64 kind, .string (S topic), .int .i64 (pn : Nat), .int .i64 (n : Nat), .int .i64 (off : Nat), .int .i64 bp, .int .i64 be, .int .i64 bq, .slice ra recs.length rc, .string (S group), .string (S mem), .int .i64 (gen : Nat), .bool robin, .slice ta tops.length tc] 29
  have BB := Lib.hid B0
  have QQ := Lib.hid q0
  obtain ⟨HX, kx, x0, x1, x2, x3, x4, x5, x6, x7, x8, x9, x10, x11, x12, x13⟩ := arr_cellsD q0
  clear B0 q0 sz0
  go_enter Tryz.func29, Tryz.ntmps29
  go_upto_region 1 with fail
  try rw [hW0]
  clear hW0
  have cc := Lib.hid (fun w => rnum_put off w n3)
  clear h1 h2 h3 n1 n2 n3 n4 hrin hrb htin ht
  go_wp2_with fail
  refine (cc.out _).use ?_
  intro w1 b1
  go_wp2_with fail
  exact finB hR (below_any (Nat.le_refl _) BB.out b1) rfl
set_option maxHeartbeats 4000000 in
set_option maxRecDepth 100000 in
theorem one_b (w : World) (kind : Int) (topic group mem : List UInt8) (pn n off gen : Nat) (bp be bq : Int) (robin : Bool) (ra ta : Option Addr) (rc tc : Nat) (recs : List Rec) (tops : List (List UInt8)) (h1 : topic.length ≤ 16) (h2 : group.length ≤ 16) (h3 : mem.length ≤ 16) (n1 : pn ≤ 1099511627776) (n2 : n ≤ 1099511627776) (n3 : off ≤ 1099511627776) (n4 : gen ≤ 1099511627776) (hrin : Hid (∀ W, Below w.heap.size w W → RecsIn W (.slice ra recs.length rc) recs)) (hrb : RecsBd recs) (htin : Hid (∀ W, Below w.heap.size w W → TopsIn W (.slice ta tops.length tc) tops)) (ht : tops.length ≤ 8 ∧ ∀ s ∈ tops, s.length ≤ 16) :
    RetB Tryz.prog 29 #[.agg #[.int .i64 kind, .string (S topic), .int .i64 (pn : Nat), .int .i64 (n : Nat), .int .i64 (off : Nat), .int .i64 bp, .int .i64 be, .int .i64 bq, .slice ra recs.length rc, .string (S group), .string (S mem), .int .i64 (gen : Nat), .bool robin, .slice ta tops.length tc], .int .u8 98] w (.string (S ((rbatch bp be bq recs).1))) := by
  refine RetB.intro fun R hR => ?_
  obtain ⟨W0, hW0, B0, q0, sz0⟩ := start1d w #[.int .i64 kind, .string (S topic), .int .i64 (pn : Nat), .int .i64 (n : Nat), .int .i64 (off : Nat), .int .i64 bp, .int .i64 be, .int .i64 bq, .slice ra recs.length rc, .string (S group), .string (S mem), .int .i64 (gen : Nat), .bool robin, .slice ta tops.length tc] 29
  have BB := Lib.hid B0
  have QQ := Lib.hid q0
  obtain ⟨HX, kx, x0, x1, x2, x3, x4, x5, x6, x7, x8, x9, x10, x11, x12, x13⟩ := arr_cellsD q0
  clear B0 q0 sz0
  go_enter Tryz.func29, Tryz.ntmps29
  go_upto_region 1 with fail
  try rw [hW0]
  clear hW0
  have cc := Lib.hid (rbatch3_any bp be bq _ recs W0 (hrin.out _ BB.out) hrb)
  clear h1 h2 h3 n1 n2 n3 n4 hrin hrb htin ht
  go_wp2_with fail
  refine cc.out.use ?_
  intro w1 b1
  go_wp2_with fail
  exact finB hR (below_any (Nat.le_refl _) BB.out b1) rfl
set_option maxHeartbeats 4000000 in
set_option maxRecDepth 100000 in
theorem one_g (w : World) (kind : Int) (topic group mem : List UInt8) (pn n off gen : Nat) (bp be bq : Int) (robin : Bool) (ra ta : Option Addr) (rc tc : Nat) (recs : List Rec) (tops : List (List UInt8)) (h1 : topic.length ≤ 16) (h2 : group.length ≤ 16) (h3 : mem.length ≤ 16) (n1 : pn ≤ 1099511627776) (n2 : n ≤ 1099511627776) (n3 : off ≤ 1099511627776) (n4 : gen ≤ 1099511627776) (hrin : Hid (∀ W, Below w.heap.size w W → RecsIn W (.slice ra recs.length rc) recs)) (hrb : RecsBd recs) (htin : Hid (∀ W, Below w.heap.size w W → TopsIn W (.slice ta tops.length tc) tops)) (ht : tops.length ≤ 8 ∧ ∀ s ∈ tops, s.length ≤ 16) :
    RetB Tryz.prog 29 #[.agg #[.int .i64 kind, .string (S topic), .int .i64 (pn : Nat), .int .i64 (n : Nat), .int .i64 (off : Nat), .int .i64 bp, .int .i64 be, .int .i64 bq, .slice ra recs.length rc, .string (S group), .string (S mem), .int .i64 (gen : Nat), .bool robin, .slice ta tops.length tc], .int .u8 103] w (.string (S (vtxt group))) := by
  refine RetB.intro fun R hR => ?_
  obtain ⟨W0, hW0, B0, q0, sz0⟩ := start1d w #[.int .i64 kind, .string (S topic), .int .i64 (pn : Nat), .int .i64 (n : Nat), .int .i64 (off : Nat), .int .i64 bp, .int .i64 be, .int .i64 bq, .slice ra recs.length rc, .string (S group), .string (S mem), .int .i64 (gen : Nat), .bool robin, .slice ta tops.length tc] 29
  have BB := Lib.hid B0
  have QQ := Lib.hid q0
  obtain ⟨HX, kx, x0, x1, x2, x3, x4, x5, x6, x7, x8, x9, x10, x11, x12, x13⟩ := arr_cellsD q0
  clear B0 q0 sz0
  go_enter Tryz.func29, Tryz.ntmps29
  go_upto_region 1 with fail
  try rw [hW0]
  clear hW0
  have cc := Lib.hid (fun w => rtext_any group w (by omega))
  clear h1 h2 h3 n1 n2 n3 n4 hrin hrb htin ht
  go_wp2_with fail
  refine (cc.out _).use ?_
  intro w1 b1
  go_wp2_with fail
  exact finB hR (below_any (Nat.le_refl _) BB.out b1) rfl
set_option maxHeartbeats 4000000 in
set_option maxRecDepth 100000 in
theorem one_m (w : World) (kind : Int) (topic group mem : List UInt8) (pn n off gen : Nat) (bp be bq : Int) (robin : Bool) (ra ta : Option Addr) (rc tc : Nat) (recs : List Rec) (tops : List (List UInt8)) (h1 : topic.length ≤ 16) (h2 : group.length ≤ 16) (h3 : mem.length ≤ 16) (n1 : pn ≤ 1099511627776) (n2 : n ≤ 1099511627776) (n3 : off ≤ 1099511627776) (n4 : gen ≤ 1099511627776) (hrin : Hid (∀ W, Below w.heap.size w W → RecsIn W (.slice ra recs.length rc) recs)) (hrb : RecsBd recs) (htin : Hid (∀ W, Below w.heap.size w W → TopsIn W (.slice ta tops.length tc) tops)) (ht : tops.length ≤ 8 ∧ ∀ s ∈ tops, s.length ≤ 16) :
    RetB Tryz.prog 29 #[.agg #[.int .i64 kind, .string (S topic), .int .i64 (pn : Nat), .int .i64 (n : Nat), .int .i64 (off : Nat), .int .i64 bp, .int .i64 be, .int .i64 bq, .slice ra recs.length rc, .string (S group), .string (S mem), .int .i64 (gen : Nat), .bool robin, .slice ta tops.length tc], .int .u8 109] w (.string (S (vtxt mem))) := by
  refine RetB.intro fun R hR => ?_
  obtain ⟨W0, hW0, B0, q0, sz0⟩ := start1d w #[.int .i64 kind, .string (S topic), .int .i64 (pn : Nat), .int .i64 (n : Nat), .int .i64 (off : Nat), .int .i64 bp, .int .i64 be, .int .i64 bq, .slice ra recs.length rc, .string (S group), .string (S mem), .int .i64 (gen : Nat), .bool robin, .slice ta tops.length tc] 29
  have BB := Lib.hid B0
  have QQ := Lib.hid q0
  obtain ⟨HX, kx, x0, x1, x2, x3, x4, x5, x6, x7, x8, x9, x10, x11, x12, x13⟩ := arr_cellsD q0
  clear B0 q0 sz0
  go_enter Tryz.func29, Tryz.ntmps29
  go_upto_region 1 with fail
  try rw [hW0]
  clear hW0
  have cc := Lib.hid (fun w => rtext_any mem w (by omega))
  clear h1 h2 h3 n1 n2 n3 n4 hrin hrb htin ht
  go_wp2_with fail
  refine (cc.out _).use ?_
  intro w1 b1
  go_wp2_with fail
  exact finB hR (below_any (Nat.le_refl _) BB.out b1) rfl
set_option maxHeartbeats 4000000 in
set_option maxRecDepth 100000 in
theorem one_e (w : World) (kind : Int) (topic group mem : List UInt8) (pn n off gen : Nat) (bp be bq : Int) (robin : Bool) (ra ta : Option Addr) (rc tc : Nat) (recs : List Rec) (tops : List (List UInt8)) (h1 : topic.length ≤ 16) (h2 : group.length ≤ 16) (h3 : mem.length ≤ 16) (n1 : pn ≤ 1099511627776) (n2 : n ≤ 1099511627776) (n3 : off ≤ 1099511627776) (n4 : gen ≤ 1099511627776) (hrin : Hid (∀ W, Below w.heap.size w W → RecsIn W (.slice ra recs.length rc) recs)) (hrb : RecsBd recs) (htin : Hid (∀ W, Below w.heap.size w W → TopsIn W (.slice ta tops.length tc) tops)) (ht : tops.length ≤ 8 ∧ ∀ s ∈ tops, s.length ≤ 16) :
    RetB Tryz.prog 29 #[.agg #[.int .i64 kind, .string (S topic), .int .i64 (pn : Nat), .int .i64 (n : Nat), .int .i64 (off : Nat), .int .i64 bp, .int .i64 be, .int .i64 bq, .slice ra recs.length rc, .string (S group), .string (S mem), .int .i64 (gen : Nat), .bool robin, .slice ta tops.length tc], .int .u8 101] w (.string (S (vput gen))) := by
  refine RetB.intro fun R hR => ?_
  obtain ⟨W0, hW0, B0, q0, sz0⟩ := start1d w #[.int .i64 kind, .string (S topic), .int .i64 (pn : Nat), .int .i64 (n : Nat), .int .i64 (off : Nat), .int .i64 bp, .int .i64 be, .int .i64 bq, .slice ra recs.length rc, .string (S group), .string (S mem), .int .i64 (gen : Nat), .bool robin, .slice ta tops.length tc] 29
  have BB := Lib.hid B0
  have QQ := Lib.hid q0
  obtain ⟨HX, kx, x0, x1, x2, x3, x4, x5, x6, x7, x8, x9, x10, x11, x12, x13⟩ := arr_cellsD q0
  clear B0 q0 sz0
  go_enter Tryz.func29, Tryz.ntmps29
  go_upto_region 1 with fail
  try rw [hW0]
  clear hW0
  have cc := Lib.hid (fun w => rnum_put gen w n4)
  clear h1 h2 h3 n1 n2 n3 n4 hrin hrb htin ht
  go_wp2_with fail
  refine (cc.out _).use ?_
  intro w1 b1
  go_wp2_with fail
  exact finB hR (below_any (Nat.le_refl _) BB.out b1) rfl
set_option maxHeartbeats 4000000 in
set_option maxRecDepth 100000 in
theorem one_r (w : World) (kind : Int) (topic group mem : List UInt8) (pn n off gen : Nat) (bp be bq : Int) (robin : Bool) (ra ta : Option Addr) (rc tc : Nat) (recs : List Rec) (tops : List (List UInt8)) (h1 : topic.length ≤ 16) (h2 : group.length ≤ 16) (h3 : mem.length ≤ 16) (n1 : pn ≤ 1099511627776) (n2 : n ≤ 1099511627776) (n3 : off ≤ 1099511627776) (n4 : gen ≤ 1099511627776) (hrin : Hid (∀ W, Below w.heap.size w W → RecsIn W (.slice ra recs.length rc) recs)) (hrb : RecsBd recs) (htin : Hid (∀ W, Below w.heap.size w W → TopsIn W (.slice ta tops.length tc) tops)) (ht : tops.length ≤ 8 ∧ ∀ s ∈ tops, s.length ≤ 16) :
    RetB Tryz.prog 29 #[.agg #[.int .i64 kind, .string (S topic), .int .i64 (pn : Nat), .int .i64 (n : Nat), .int .i64 (off : Nat), .int .i64 bp, .int .i64 be, .int .i64 bq, .slice ra recs.length rc, .string (S group), .string (S mem), .int .i64 (gen : Nat), .bool robin, .slice ta tops.length tc], .int .u8 114] w (.string (S ([if robin then 1 else 0]))) := by
  refine RetB.intro fun R hR => ?_
  obtain ⟨W0, hW0, B0, q0, sz0⟩ := start1d w #[.int .i64 kind, .string (S topic), .int .i64 (pn : Nat), .int .i64 (n : Nat), .int .i64 (off : Nat), .int .i64 bp, .int .i64 be, .int .i64 bq, .slice ra recs.length rc, .string (S group), .string (S mem), .int .i64 (gen : Nat), .bool robin, .slice ta tops.length tc] 29
  have BB := Lib.hid B0
  have QQ := Lib.hid q0
  obtain ⟨HX, kx, x0, x1, x2, x3, x4, x5, x6, x7, x8, x9, x10, x11, x12, x13⟩ := arr_cellsD q0
  clear B0 q0 sz0
  go_enter Tryz.func29, Tryz.ntmps29
  go_upto_region 1 with fail
  try rw [hW0]
  clear hW0
  clear h1 h2 h3 n1 n2 n3 n4 hrin hrb htin ht
  cases robin
  all_goals go_wp2_with fail
  all_goals exact finB hR BB.out rfl
set_option maxHeartbeats 4000000 in
set_option maxRecDepth 100000 in
theorem one_l (w : World) (kind : Int) (topic group mem : List UInt8) (pn n off gen : Nat) (bp be bq : Int) (robin : Bool) (ra ta : Option Addr) (rc tc : Nat) (recs : List Rec) (tops : List (List UInt8)) (h1 : topic.length ≤ 16) (h2 : group.length ≤ 16) (h3 : mem.length ≤ 16) (n1 : pn ≤ 1099511627776) (n2 : n ≤ 1099511627776) (n3 : off ≤ 1099511627776) (n4 : gen ≤ 1099511627776) (hrin : Hid (∀ W, Below w.heap.size w W → RecsIn W (.slice ra recs.length rc) recs)) (hrb : RecsBd recs) (htin : Hid (∀ W, Below w.heap.size w W → TopsIn W (.slice ta tops.length tc) tops)) (ht : tops.length ≤ 8 ∧ ∀ s ∈ tops, s.length ≤ 16) :
    RetB Tryz.prog 29 #[.agg #[.int .i64 kind, .string (S topic), .int .i64 (pn : Nat), .int .i64 (n : Nat), .int .i64 (off : Nat), .int .i64 bp, .int .i64 be, .int .i64 bq, .slice ra recs.length rc, .string (S group), .string (S mem), .int .i64 (gen : Nat), .bool robin, .slice ta tops.length tc], .int .u8 108] w (.string (S (vput tops.length ++ tops.flatMap vtxt))) := by
  refine RetB.intro fun R hR => ?_
  obtain ⟨W0, hW0, B0, q0, sz0⟩ := start1d w #[.int .i64 kind, .string (S topic), .int .i64 (pn : Nat), .int .i64 (n : Nat), .int .i64 (off : Nat), .int .i64 bp, .int .i64 be, .int .i64 bq, .slice ra recs.length rc, .string (S group), .string (S mem), .int .i64 (gen : Nat), .bool robin, .slice ta tops.length tc] 29
  have BB := Lib.hid B0
  have QQ := Lib.hid q0
  obtain ⟨HX, kx, x0, x1, x2, x3, x4, x5, x6, x7, x8, x9, x10, x11, x12, x13⟩ := arr_cellsD q0
  clear B0 q0 sz0
  go_enter Tryz.func29, Tryz.ntmps29
  go_upto_region 1 with fail
  try rw [hW0]
  clear hW0
  have cL := Lib.hid (fun w => rnum_put tops.length w (by omega))
  have HT := Lib.hid ht.2
  have hl8 := ht.1
  clear h1 h2 h3 n1 n2 n3 n4 hrin hrb ht
  go_wp2_with fail
  refine (cL.out _).use ?_
  intro w1 b1
  have hB1 := below_any (Nat.le_refl _) BB.out b1
  have hQ1 := QQ.out.below b1
  clear x0 x1 x2 x3 x4 x5 x6 x7 x8 x9 x10 x11 x12 x13 kx HX QQ BB b1 cL
  go_wp2_with fail
  go_loopw [7, 8] (fun (v7 v8 : Value) (wr : World) => ∃ (k : Nat) (t : List UInt8), k ≤ tops.length ∧ v8 = .int .i64 (k : Int) ∧ v7 = .string (S t) ∧ Hid (t = vput tops.length ++ (tops.take k).flatMap vtxt) ∧ Below w.heap.size w wr ∧ Blk wr w.heap.size #[.int .i64 kind, .string (S topic), .int .i64 (pn : Nat), .int .i64 (n : Nat), .int .i64 (off : Nat), .int .i64 bp, .int .i64 be, .int .i64 bq, .slice ra recs.length rc, .string (S group), .string (S mem), .int .i64 (gen : Nat), .bool robin, .slice ta tops.length tc] 29) (fun (v7 v8 : Value) (wr : World) => (tops.length - intOf v8).toNat)
  case atStart => exact ⟨0, _, by omega, rfl, rfl, Lib.hid (by simp), hB1, hQ1⟩
  case round =>
    clear hB1 hQ1
    obtain ⟨k, t, hk, rfl, rfl, hT, hB, hQ⟩ := hrel
    have HB := Lib.hid hB
    have HQ := Lib.hid hQ
    obtain ⟨HX, kx, x0, x1, x2, x3, x4, x5, x6, x7, x8, x9, x10, x11, x12, x13⟩ := arr_cellsD hQ
    clear hB hQ HX x0 x1 x2 x3 x4 x5 x6 x7 x8 x9 x10 x11 x12
    by_cases hkl : k < tops.length
    · obtain ⟨b, o, hae, hbl, hc⟩ : ∃ b o, ta = some ⟨b, o, none⟩ ∧ b < wr.heap.size ∧ wr.cell? ⟨b, o + k, none⟩ = some (.string (S tops[k])) := by
        rcases htin.out _ HB.out with ⟨h0, _⟩ | ⟨b, o, cap, he, _, hl, hc⟩
        · rw [h0] at hkl; simp at hkl
        · simp only [Value.slice.injEq] at he
          exact ⟨b, o, he.1, hl, hc k hkl⟩
      have hsn := flatMap_snoc tops k hkl vtxt
      have hs16 := HT.out _ (List.getElem_mem hkl)
      have hle := names_len (tops := tops.take k) (by rw [List.length_take]; omega) (fun s hs => HT.out s (List.mem_of_mem_take hs))
      generalize tops[k] = sx at *
      have cT := Lib.hid (fun w => rtext_any sx w (by omega))
      have lx := vtxt_le sx
      have lv := vput_le tops.length
      have htl : t.length ≤ 100010 := by
        rw [hT.out]
        rw [List.length_append] at hle ⊢
        omega
      have hn : Hid (t ++ vtxt sx = vput tops.length ++ (tops.take (k + 1)).flatMap vtxt) := Lib.hid (by rw [hsn, hT.out, List.append_assoc])
      have g1 : ¬ 9223372036854775807 < t.length + (vtxt sx).length := by omega
      subst hae
      have i1 : (0 : Int) ≤ (k : Int) := by omega
      have i2 : (k : Int) < (tops.length : Int) := by omega
      clear hsn hle hT lx lv htl hs16
      go_wp2_with fail
      refine (cT.out _).use ?_
      intro w3 b3
      go_wp2_with fail
      go_roundw
      case rel => exact ⟨k + 1, _, by omega, by go_num, rfl, hn, below_any (Nat.le_refl _) HB.out b3, HQ.out.below b3⟩
      case measure => simp [intOf]; omega
    · have hle : tops.length ≤ k := by omega
      have he : Hid (t = vput tops.length ++ tops.flatMap vtxt) := Lib.hid (by have h := hT.out; rwa [List.take_of_length_le hle] at h)
      clear hT
      go_wp2_with fail
      exact finB hR HB.out (veq_str he.out)
theorem oneB_le {c : Cmd} (ok : CmdOk c) (x : UInt8) : (oneB c x).length ≤ 200000 := by
  have a1 := vtxt_le c.topic
  have a2 := vtxt_le c.group
  have a3 := vtxt_le c.member
  have a4 := vput_le c.pn.toNat
  have a5 := vput_le c.n.toNat
  have a6 := vput_le c.off.toNat
  have a7 := vput_le c.gen.toNat
  have a8 := rbatch_le c.bp c.be c.bq c.recs
  have a9 := names_len ok.tops.1 ok.tops.2
  have b1 := ok.topic
  have b2 := ok.group
  have b3 := ok.member
  unfold oneB
  repeat' split
  all_goals first | omega | (rw [List.length_append]; omega) | simp
theorem hasL_in (k : Nat) (hk : k ≤ 12) (x : UInt8) (hx : x ∈ hasL k) : x = 116 ∨ x = 112 ∨ x = 110 ∨ x = 111 ∨ x = 98 ∨ x = 103 ∨ x = 109 ∨ x = 101 ∨ x = 114 ∨ x = 108 := by
  have : k = 0 ∨ k = 1 ∨ k = 2 ∨ k = 3 ∨ k = 4 ∨ k = 5 ∨ k = 6 ∨ k = 7 ∨ k = 8 ∨ k = 9 ∨ k = 10 ∨ k = 11 ∨ k = 12 := by omega
  rcases this with rfl | rfl | rfl | rfl | rfl | rfl | rfl | rfl | rfl | rfl | rfl | rfl | rfl
  all_goals
    simp only [hasL, List.mem_cons, List.not_mem_nil, or_false] at hx
    first | (subst hx; simp; done) | (rcases hx with rfl | rfl <;> simp; done) | (rcases hx with rfl | rfl | rfl <;> simp; done) | (rcases hx with rfl | rfl | rfl | rfl <;> simp; done) | (rcases hx with rfl | rfl | rfl | rfl | rfl <;> simp; done)
theorem hasL_len (k : Nat) : (hasL k).length ≤ 5 := by
  unfold hasL; split <;> simp
theorem one4 (c : Cmd) (rv tv : Value) (w : World) (ok : CmdOk c) (hrin : Hid (∀ W, Below w.heap.size w W → RecsIn W rv c.recs)) (hrb : RecsBd c.recs) (htin : Hid (∀ W, Below w.heap.size w W → TopsIn W tv c.tops)) (x : UInt8)
    (hx : x = 116 ∨ x = 112 ∨ x = 110 ∨ x = 111 ∨ x = 98 ∨ x = 103 ∨ x = 109 ∨ x = 101 ∨ x = 114 ∨ x = 108) :
    RetB Tryz.prog 29 #[.agg (c.arr rv tv), .int .u8 (x.toNat : Nat)] w (.string (S (oneB c x))) := by
  obtain ⟨hk, ht, hg, hm, hpn, hn, hoff, hgen, _, htp⟩ := ok
  obtain ⟨ra, rc, hrv⟩ := (hrin.out _ (Below.refl _ _)).form
  obtain ⟨ta, tc, htv⟩ := (htin.out _ (Below.refl _ _)).form
  subst hrv htv
  obtain ⟨kind, topic, pn, n, off, bp, be, bq, recs, group, mem, gen, robin, tops⟩ := c
  dsimp only [Cmd.arr] at *
  obtain ⟨pn, rfl, hpn⟩ := numB_ex hpn
  obtain ⟨n, rfl, hn⟩ := numB_ex hn
  obtain ⟨off, rfl, hoff⟩ := numB_ex hoff
  obtain ⟨gen, rfl, hgen⟩ := numB_ex hgen
  rcases hx with rfl | rfl | rfl | rfl | rfl | rfl | rfl | rfl | rfl | rfl
  · exact (one_t w kind topic group mem pn n off gen bp be bq robin ra ta rc tc recs tops ht hg hm (by omega) (by omega) (by omega) (by omega) hrin hrb htin htp).cast (by simp [oneB])
  · exact (one_p w kind topic group mem pn n off gen bp be bq robin ra ta rc tc recs tops ht hg hm (by omega) (by omega) (by omega) (by omega) hrin hrb htin htp).cast (by simp [oneB])
  · exact (one_n w kind topic group mem pn n off gen bp be bq robin ra ta rc tc recs tops ht hg hm (by omega) (by omega) (by omega) (by omega) hrin hrb htin htp).cast (by simp [oneB])
  · exact (one_o w kind topic group mem pn n off gen bp be bq robin ra ta rc tc recs tops ht hg hm (by omega) (by omega) (by omega) (by omega) hrin hrb htin htp).cast (by simp [oneB])
  · exact (one_b w kind topic group mem pn n off gen bp be bq robin ra ta rc tc recs tops ht hg hm (by omega) (by omega) (by omega) (by omega) hrin hrb htin htp).cast (by simp [oneB])
  · exact (one_g w kind topic group mem pn n off gen bp be bq robin ra ta rc tc recs tops ht hg hm (by omega) (by omega) (by omega) (by omega) hrin hrb htin htp).cast (by simp [oneB])
  · exact (one_m w kind topic group mem pn n off gen bp be bq robin ra ta rc tc recs tops ht hg hm (by omega) (by omega) (by omega) (by omega) hrin hrb htin htp).cast (by simp [oneB])
  · exact (one_e w kind topic group mem pn n off gen bp be bq robin ra ta rc tc recs tops ht hg hm (by omega) (by omega) (by omega) (by omega) hrin hrb htin htp).cast (by simp [oneB])
  · exact (one_r w kind topic group mem pn n off gen bp be bq robin ra ta rc tc recs tops ht hg hm (by omega) (by omega) (by omega) (by omega) hrin hrb htin htp).cast (by simp [oneB])
  · exact (one_l w kind topic group mem pn n off gen bp be bq robin ra ta rc tc recs tops ht hg hm (by omega) (by omega) (by omega) (by omega) hrin hrb htin htp).cast (by simp [oneB])
set_option maxHeartbeats 4000000 in
set_option maxRecDepth 100000 in
theorem dput4 (c : Cmd) (rv tv : Value) (w : World) (hi : CmdIn w c rv tv) (hb : CmdBd c) :
    RetB Tryz.prog 11 #[.agg (c.arr rv tv)] w (.tuple #[.string (S (cmdPut c).1), .int .i64 ((cmdPut c).2 : Nat)]) := by
  refine RetB.intro fun R hR => ?_
  obtain ⟨ra, rc, hrv⟩ := hi.recs.form
  obtain ⟨ta, tc, htv⟩ := hi.tops.form
  subst hrv htv
  obtain ⟨W0, hW0, B0, q0, sz0⟩ := start1d w (c.arr (.slice ra c.recs.length rc) (.slice ta c.tops.length tc)) 29
  have BB := Lib.hid B0
  have QQ := Lib.hid q0
  have HI := Lib.hid (fun W (hW : Below w.heap.size w W) => hi.below hW)
  have cK := Lib.hid (rcheck4 c _ _ W0 (hi.below B0) hb)
  obtain ⟨HX, kx, x0, x1, x2, x3, x4, x5, x6, x7, x8, x9, x10, x11, x12, x13⟩ := arr_cellsD q0
  clear B0 q0 sz0 hi
  dsimp only [Cmd.arr] at hW0 cK ⊢
  by_cases h0 : ccheck c = 0
  case neg =>
    have e0 : cmdPut c = ([], ccheck c) := by unfold cmdPut; rw [if_neg h0]
    rw [e0] at hR
    dsimp only at hR
    generalize ccheck c = E at *
    have t1 : ((E : Int) = 0) = False := eq_false (by omega)
    go_enter Tryz.func11, Tryz.ntmps11
    go_upto_region 1 with fail
    try rw [hW0]

    clear hW0
    go_wp2_with fail
    refine cK.out.use ?_
    intro w1 b1
    go_wp2_with fail
    exact finB hR (below_any (Nat.le_refl _) BB.out b1) rfl
  case pos =>
    have ok := ccheck_ok h0
    have e0 : cmdPut c = (cmdText c, 0) := by unfold cmdPut; rw [if_pos h0]
    rw [e0] at hR
    dsimp only at hR
    rw [h0] at cK
    obtain ⟨k, hk, hk12⟩ : ∃ k : Nat, c.kind = (k : Int) ∧ k ≤ 12 := ⟨c.kind.toNat, by have := ok.kind; omega, by have := ok.kind; omega⟩
    have htx : cmdText c = vput k ++ (hasL k).flatMap (oneB c) := by rw [cmdText_L c (by omega), hk]; rfl
    rw [htx] at hR
    have HK := Lib.hid hk
    clear hk

    have HO := Lib.hid (fun (W : World) (hW : Below w.heap.size w W) (x : UInt8) (hx : x ∈ hasL k) => one4 c _ _ W ok (Lib.hid fun V hV => (HI.out V (below_any (Nat.le_refl _) hW hV)).recs) hb.recs (Lib.hid fun V hV => (HI.out V (below_any (Nat.le_refl _) hW hV)).tops) x (hasL_in k hk12 x hx))
    have HL := Lib.hid (fun x => oneB_le ok x)
    have cP := Lib.hid (fun w => rnum_put k w (by omega))
    have cH := Lib.hid (fun w => has4 k hk12 w)
    have hLl := hasL_len k
    have lk := vput_le k
    clear ok hb e0 htx
    clear h0
    generalize hasL k = L at *
    go_enter Tryz.func11, Tryz.ntmps11
    go_upto_region 1 with fail
    try rw [hW0]
    clear hW0
    go_wp2_with fail
    refine (cK.out.cast (v' := .int .i64 0) rfl).use ?_
    intro w1 b1
    have B1 := Lib.hid (below_any (Nat.le_refl _) BB.out b1)
    have Q1 := Lib.hid (QQ.out.below b1)
    have z0 := b1.cell (p := ⟨w.heap.size, 0, none⟩) kx
    have kz := Nat.lt_of_lt_of_le kx b1.size
    rw [x0, HK.out] at z0
    clear BB QQ HX cK b1 x0 x1 x2 x3 x4 x5 x6 x7 x8 x9 x10 x11 x12 x13 kx
    go_upto_region 4 with fail
    go_region_held3 (fun w' => w'.cell? ⟨w.heap.size, 0, none⟩ = some (.int .i64 (k : Nat))) (go_keep) (first | (go_at_call 28; refine (cP.out _).use ?_; intro w2 b2; have P2 := below_any (Nat.le_refl _) B1.out.drew b2; have a2 := (b2.cell (p := ⟨w.heap.size, 0, none⟩) kz).trans z0; have ks := Nat.lt_of_lt_of_le kz b2.size; have R2 := (Blk.drew Q1.out).below b2) | (go_at_call 9; refine (cH.out _).use ?_; intro w3 b3; have P3 := below_any (Nat.le_refl _) P2 b3; have a3 := (b3.cell (p := ⟨w.heap.size, 0, none⟩) ks).trans a2; have R3 := R2.below b3))
    clear Q1 B1 z0 kz P2 R2 a2 a3 ks cP cH
    go_wp2_with fail
    dsimp only [Cmd.arr] at R3
    go_loopw [5, 7] (fun (v5 v7 : Value) (wr : World) => ∃ (j : Nat) (t : List UInt8), j ≤ L.length ∧ v7 = .int .i64 (j : Int) ∧ v5 = .string (S t) ∧ Hid (t = vput k ++ (L.take j).flatMap (oneB c)) ∧ Below w.heap.size w wr ∧ Blk wr w.heap.size (c.arr (.slice ra c.recs.length rc) (.slice ta c.tops.length tc)) 29) (fun (v5 v7 : Value) (wr : World) => (L.length - intOf v7).toNat)
    case atStart => exact ⟨0, _, by omega, rfl, rfl, Lib.hid (by simp), P3, R3⟩
    case round =>
      clear P3 R3
      obtain ⟨j, t, hj, rfl, rfl, hT, hB, hQ⟩ := hrel
      have HB := Lib.hid hB
      have HQ := Lib.hid hQ
      clear hB hQ
      by_cases hjl : j < L.length
      · have hsn := flatMap_snoc L j hjl (oneB c)
        have cO := Lib.hid (fun W hW => HO.out W hW L[j] (List.getElem_mem hjl))
        have hl1 := HL.out L[j]
        have hle := flatMap_le (oneB c) 200000 (L.take j) (fun x _ => HL.out x)
        have htl : t.length ≤ 10 + 200000 * 5 := by
          rw [hT.out, List.length_append]
          rw [List.length_take] at hle
          have : 200000 * min j L.length ≤ 200000 * 5 := Nat.mul_le_mul_left _ (by omega)
          omega
        obtain ⟨y, hy⟩ : ∃ y, ((S L)[j]'(by rw [S_size]; exact hjl)).toNat = y := ⟨_, rfl⟩
        have hy' : L[j].toNat = y := hy
        rw [hy'] at cO
        have hn : Hid (t ++ oneB c L[j] = vput k ++ (L.take (j + 1)).flatMap (oneB c)) := Lib.hid (by rw [hsn, hT.out, List.append_assoc])
        generalize oneB c L[j] = tx at *
        have g1 : ¬ 9223372036854775807 < t.length + tx.length := by omega
        have i1 : (0 : Int) ≤ (j : Int) := by omega
        have i2 : (j : Int) < (L.length : Int) := by omega
        clear hsn hle hT htl hl1 hy'
        go_upto_region 8 with fail
        refine wp_region_held_drew (S := (fun w' => Blk w' w.heap.size (c.arr (.slice ra c.recs.length rc) (.slice ta c.tops.length tc)) 29)) (by kernel_rfl) (HQ.out.drew) (fun hHeld => ?_)
        refine wpAnyH_take (i := 0) (v := ?_) rfl (by kernel_rfl) (by kernel_rfl) (by kernel_rfl) (fun _ _ _ h => h) (Or.inl ⟨by rfl, ?_⟩) hHeld ?_
        rotate_left
        · (intro w hSw; (try dsimp only at hSw); go_simp; try with_reducible rfl)
        try simp only [List.getElem_toArray, List.getElem_cons_zero, List.getElem_cons_succ, Act.put, List.setIfInBounds_toArray, List.set_cons_zero, List.set_cons_succ]
        refine wpAnyH_take (i := 1) (v := _) rfl (by kernel_rfl) (by kernel_rfl) (by kernel_rfl) (fun _ _ _ h => h) (Or.inl ⟨by rfl, fun w hSw => load_blk0 hSw rfl rfl Tryz.underlying29 rfl (by kernel_rfl)⟩) hHeld ?_
        try simp only [List.getElem_toArray, List.getElem_cons_zero, List.getElem_cons_succ, Act.put, List.setIfInBounds_toArray, List.set_cons_zero, List.set_cons_succ]
        refine wpAnyH_take (i := 2) (v := ?_) rfl (by kernel_rfl) (by kernel_rfl) (by kernel_rfl) (fun _ _ _ h => h) (Or.inl ⟨by rfl, ?_⟩) hHeld ?_
        rotate_left
        · (intro w hSw; (try dsimp only at hSw); go_simp; try with_reducible rfl)
        try simp only [List.getElem_toArray, List.getElem_cons_zero, List.getElem_cons_succ, Act.put, List.setIfInBounds_toArray, List.set_cons_zero, List.set_cons_succ]
        refine wpAnyH_take (i := 3) (v := ?_) rfl (by kernel_rfl) (by kernel_rfl) (by kernel_rfl) (fun _ _ _ h => h) (Or.inl ⟨by rfl, ?_⟩) hHeld ?_
        rotate_left
        · (intro w hSw; (try dsimp only at hSw); go_simp; try with_reducible rfl)
        try simp only [List.getElem_toArray, List.getElem_cons_zero, List.getElem_cons_succ, Act.put, List.setIfInBounds_toArray, List.set_cons_zero, List.set_cons_succ]
        refine wpAnyH_take (i := 4) (v := ?_) rfl (by kernel_rfl) (by kernel_rfl) (by kernel_rfl) (fun _ _ _ h => h) (Or.inl ⟨by rfl, ?_⟩) hHeld ?_
        rotate_left
        · (intro w hSw; (try dsimp only at hSw); go_simp; try with_reducible rfl)
        try simp only [List.getElem_toArray, List.getElem_cons_zero, List.getElem_cons_succ, Act.put, List.setIfInBounds_toArray, List.set_cons_zero, List.set_cons_succ]
        refine wpAnyH_ready (rs := [5]) (by kernel_rfl) (by simp) ?_
        refine AllReadyH.cons rfl (fun K hK => ?_) AllReadyH.nil
        go_simp
        refine (cO.out _ HB.out.drew).use ?_
        intro w3 b3
        have P3 := below_any (Nat.le_refl _) HB.out.drew b3
        have R3 := HQ.out.drew.below b3
        go_wp2_with fail
        refine hK.out _ _ (R3) (fun hHeld => ?_)
        clear hK K
        try simp only [List.getElem_toArray, List.getElem_cons_zero, List.getElem_cons_succ, Act.put, List.setIfInBounds_toArray, List.set_cons_zero, List.set_cons_succ]
        refine wpAnyH_take (i := 6) (v := ?_) rfl (by kernel_rfl) (by kernel_rfl) (by kernel_rfl) (fun _ _ _ h => h) (Or.inl ⟨by rfl, ?_⟩) hHeld ?_
        rotate_left
        · (intro w hSw; (try dsimp only at hSw); go_simp; try with_reducible rfl)
        try simp only [List.getElem_toArray, List.getElem_cons_zero, List.getElem_cons_succ, Act.put, List.setIfInBounds_toArray, List.set_cons_zero, List.set_cons_succ]
        refine wpAnyH_take (i := 7) (v := ?_) rfl (by kernel_rfl) (by kernel_rfl) (by kernel_rfl) (fun _ _ _ h => h) (Or.inl ⟨by rfl, ?_⟩) hHeld ?_
        rotate_left
        · (intro w hSw; (try dsimp only at hSw); go_simp; try with_reducible rfl)
        try simp only [List.getElem_toArray, List.getElem_cons_zero, List.getElem_cons_succ, Act.put, List.setIfInBounds_toArray, List.set_cons_zero, List.set_cons_succ]
        refine wpAnyH_done (by kernel_rfl) ?_ _
        go_wp2_with fail
        go_roundw
        case rel => exact ⟨j + 1, _, by omega, by go_num, rfl, hn, P3, R3⟩
        case measure => simp [intOf]; omega
      · have hle : L.length ≤ j := by omega
        have he : Hid (t = vput k ++ L.flatMap (oneB c)) := Lib.hid (by have h := hT.out; rwa [List.take_of_length_le hle] at h)
        clear hT
        go_wp2_with fail
        exact finB hR HB.out (tup2 (veq_str he.out) rfl)
end Go.Proofs.YthiliodmbipikaaGreat
