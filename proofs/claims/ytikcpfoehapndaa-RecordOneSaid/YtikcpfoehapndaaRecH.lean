/-
  Layer 3: the reader reads a record, and a record is got: contracts.
-/
import Derived.Test.YtikcpfoehapndaaRecG
set_option linter.unusedVariables false
set_option linter.unusedSimpArgs false
namespace Go.Proofs.Ytikcpfoehapndaa
open Go.RowKit
attribute [local go_sem] ByteArray.extract_mk ByteArray.mk_append_mk

theorem grown_own {a w : World} {row : Option Nat} (h : a.grownBy w row) {c : Nat} (hc : a.heap.size ≤ c) (i : Nat) (v : Value) : a.grownBy (w.setCell ⟨c, i, none⟩ v) row :=
  ⟨h.os, h.tape, h.output, by have := h.size; simpa [World.setCell] using this, fun k hk hne => (heap_setCell_other _ _ _ _ (by simp; omega)).trans (h.block k hk hne)⟩
set_option maxHeartbeats 1000000 in
set_option maxRecDepth 100000 in
theorem rd_record (s : List UInt8) (at_ e : Int) (b : Nat) (w : World) (hr : Rd w b s at_ e) (hl : s.length ≤ maxLen) :
    RdCall 36 #[.pointer (some ⟨b, 0, none⟩)] w b s (.agg #[.bool (mrec s at_ e).1.hk, .string (S (mrec s at_ e).1.key), .bool (mrec s at_ e).1.tb, .string (S (mrec s at_ e).1.val)]) (mrec s at_ e).2.1 (mrec s at_ e).2.2 := by
  refine RdCall.intro fun R hR => ?_
  obtain ⟨c, a1, e1, h1⟩ : ∃ c a1 e1, mfirst s at_ e = (c, a1, e1) := ⟨_, _, _, rfl⟩
  obtain ⟨hk, hh⟩ : ∃ hk, decide (c % 2 = 1) = hk := ⟨_, rfl⟩
  obtain ⟨tb, ht⟩ : ∃ tb, decide (c / 2 % 2 = 1) = tb := ⟨_, rfl⟩
  obtain ⟨k, a2, e2, h2⟩ : ∃ k a2 e2, mtext s a1 e1 hk 64 = (k, a2, e2) := ⟨_, _, _, rfl⟩
  obtain ⟨v, a3, e3, h3⟩ : ∃ v a3 e3, mtext s a2 e2 (!tb) 512 = (v, a3, e3) := ⟨_, _, _, rfl⟩
  rw [mrec_eq h1 hh ht h2 h3] at hR
  simp only at hR
  have hc := mfirst_bd s at_ e
  have c1 := fun w (hr : Rd w b s at_ e) => rd_first s at_ e b w hr hl
  rw [h1] at c1 hc
  have c2 := fun w (hr : Rd w b s a1 e1) => rd_text s a1 e1 64 hk b w hr hl (by decide)
  rw [h2] at c2
  have c3 := fun w (hr : Rd w b s a2 e2) => rd_text s a2 e2 512 (!tb) b w hr hl (by decide)
  rw [h3] at c3
  simp only at c1 c2 c3 hc
  obtain ⟨b1, b2⟩ := and_bits c hc
  rw [hh] at b1
  rw [ht] at b2
  clear h1 h2 h3 hh ht hl
  have hlt : b < w.heap.size := Blk.lt hr
  have C1 := Lib.hid c1
  have C2 := Lib.hid c2
  have C3 := Lib.hid c3
  clear c1 c2 c3
  go_enter Try.func36, Try.ntmps36
  go_wp2_with fail
  refine (C1.out _ (Blk.alloc hr _)).use ?_
  intro w1 r1 g1
  have z1 : w.heap.size + 1 ≤ w1.heap.size := by have := g1.size; simpa using this
  have n1 : some w.heap.size ≠ some b := by simp; omega
  have n2 : some w1.heap.size ≠ some b := by simp; omega
  have A1 := (Blk.new w _ _).grown g1 n1
  go_wp2_with fail
  refine (C2.out _ (Blk.alloc r1 _)).use ?_
  intro w2 r2 g2
  have z2 : w1.heap.size + 1 ≤ w2.heap.size := by have := g2.size; simpa using this
  have A2 := (A1.alloc _).grown g2 n1
  have X2 := (Blk.new w1 _ _).grown g2 n2
  obtain ⟨y0, y1, y2, y3, y4⟩ := X2.c4
  have f2 := fun i => Blk.frozen X2 i
  go_wp2_with fail
  refine (C3.out _ (Blk.setOther r2 (by simp; omega) _)).use ?_
  intro w3 r3 g3
  have z3 : w2.heap.size ≤ w3.heap.size := by have := g3.size; simpa [World.setCell] using this
  have A3 := (A2.setOther (by simp; omega) _).grown g3 n1
  have X3 := (X2.set 1 (.string (S k))).grown g3 n2
  obtain ⟨u0, u1, u2, u3, u4⟩ := Blk.c4 (show Blk w3 w1.heap.size #[.bool hk, .string (S k), .bool tb, .string (S [])] 23 from X3)
  have f3 := fun i => Blk.frozen X3 i
  obtain ⟨t0, t1, t2, t3, t4⟩ := A3.c4
  have f4 := fun i => Blk.frozen A3 i
  go_wp2_with fail
  have A4 := ((((A3.setOther (a := ⟨w1.heap.size, 3, none⟩) (by simp; omega) (.string (S v))).set 0 (.bool hk)).set 1 (.string (S k))).set 2 (.bool tb)).set 3 (.string (S v))
  refine bodyPost_ret (results_cell_row rfl _ _ w.heap.size 23 _ (0, 0) _ rfl A4 Try.underlying23 rfl (by kernel_rfl)) rfl ?_
  have G1 : w.grownBy w1 (some b) := (World.grownBy_alloc w _ _).trans g1
  have G2 : w.grownBy w2 (some b) := (grown_alloc G1 _).trans g2
  have G3 : w.grownBy w3 (some b) := (grown_own G2 (by omega) _ _).trans g3
  exact finR hR ((((((Blk.setOther r3 (by simp; omega) _).setOther (by simp; omega) _).setOther (by simp; omega) _).setOther (by simp; omega) _).setOther (by simp; omega) _)) (grown_own (grown_own (grown_own (grown_own (grown_own G3 (by omega) _ _) (Nat.le_refl _) _ _) (Nat.le_refl _) _ _) (Nat.le_refl _) _ _) (Nat.le_refl _) _ _) rfl

theorem results_cell3 {P : Program} {fn : Func} {p u1 u2 : Tmp} {ty : TypeId} (h : fn.results = #[.cell p ty, .tmp u1, .tmp u2]) (tmps : Array Value) (w : World) (g : Nat) (t : TypeId) (cs : Array Value) (fr : Nat × Nat) (d : TypeDesc) (x1 x2 : Value)
    (hp : tmps.getD p undef = .pointer (some ⟨g, 0, none⟩)) (h1 : tmps.getD u1 undef = x1) (h2 : tmps.getD u2 undef = x2) (hg : w.heap[g]? = some (.cells cs t fr))
    (hu : P.underlying ty = some d) (hd : (match d with | .struct _ | .array _ _ => true | _ => false) = true) (hi : (P.info? ty).map (·.size) = some cs.size) :
    (results fn tmps).run P w = .ok (.tuple #[.agg cs, x1, x2]) w := by
  have hp' : tmps[p]?.getD undef = .pointer (some ⟨g, 0, none⟩) := by simpa using hp
  have h1' : tmps[u1]?.getD undef = x1 := by simpa using h1
  have h2' : tmps[u2]?.getD undef = x2 := by simpa using h2
  simp [results, h, hp', h1', h2', asAddr, run_loadVar_row w g t ty cs fr d hg hu hd hi]

/-- A record is got. -/
theorem get3_any (s : List UInt8) (at_ : Int) (w : World) (hl : s.length ≤ maxLen) :
    RetB Try.prog 22 #[.string (S s), .int .i64 at_] w (.tuple #[.agg #[.bool (mget s at_).1.hk, .string (S (mget s at_).1.key), .bool (mget s at_).1.tb, .string (S (mget s at_).1.val)], .int .i64 (mget s at_).2.1, .int .i64 (mget s at_).2.2]) := by
  refine RetB.intro fun R hR => ?_
  have cR := fun b w (hr : Rd w b s at_ 0) => rd_record s at_ 0 b w hr hl
  unfold mget at hR
  generalize mrec s at_ 0 = m at *
  obtain ⟨⟨hk, k, tb, v⟩, to, e⟩ := m
  simp only at cR hR
  have CR := Lib.hid cR
  clear cR
  by_cases he : e = 0
  · subst he
    rw [if_pos rfl] at hR
    go_enter Try.func22, Try.ntmps22
    go_wp2_with fail
    refine (CR.out (w.heap.size + 1) _ (by have h := Blk.new (w.alloc (.cells #[.bool false, .string (S []), .bool false, .string (S [])] 23)) #[.string (S s), .int .i64 at_, .int .i64 0] 65; rw [World.size_alloc] at h; exact h)).use ?_
    intro w1 r1 g1
    have z1 : w.heap.size + 2 ≤ w1.heap.size := by have := g1.size; simpa using this
    have A1 := ((Blk.new w _ _).alloc _).grown g1 (by simp)
    obtain ⟨t0, t1, t2, t3, t4⟩ := A1.c4
    have f1 := fun i => Blk.frozen A1 i
    obtain ⟨q0, q1, q2, q3⟩ := Blk.c3 r1
    have n1 : w.heap.size ≠ w1.heap.size := by omega
    have n2 : w.heap.size + 1 ≠ w1.heap.size := by omega
    have n3 : w.heap.size < w1.heap.size := by omega
    have n4 : w.heap.size + 1 < w1.heap.size := by omega
    have G1 : Below w.heap.size w w1 := below_own (below_all (below_all (Below.refl _ _))) (by omega) (by simp; omega) g1
    go_wp2_with (fail)
    have X1 := Blk.new w1 #[.bool hk, .string (S k), .bool tb, .string (S v)] 23
    have A2 := A1.alloc (.cells #[.bool hk, .string (S k), .bool tb, .string (S v)] 23)
    have R2 := Blk.alloc r1 (.cells #[.bool hk, .string (S k), .bool tb, .string (S v)] 23)
    have G2 := below_all (o := .cells #[.bool hk, .string (S k), .bool tb, .string (S v)] 23) G1
    have FM := Lib.hid f1
    clear t1 t2 t3 t4 f1 q1 q2 q3
    generalize w1.alloc (.cells #[.bool hk, .string (S k), .bool tb, .string (S v)] 23) = W1 at X1 A2 R2 G2 ⊢
    obtain ⟨t0, t1, t2, t3, t4⟩ := A2.c4
    have f1 := fun i => Blk.frozen A2 i
    obtain ⟨q0, q1, q2, q3⟩ := Blk.c3 R2
    obtain ⟨x0, x1, x2, x3, x4⟩ := X1.c4
    go_region_held3 (fun w' => w'.cell? ⟨w1.heap.size, 0, none⟩ = some (.bool hk) ∧ w'.cell? ⟨w1.heap.size, 1, none⟩ = some (.string (S k)) ∧ w'.cell? ⟨w1.heap.size, 2, none⟩ = some (.bool tb) ∧ w'.cell? ⟨w1.heap.size, 3, none⟩ = some (.string (S v)) ∧ w'.cell? ⟨w.heap.size + 1, 1, none⟩ = some (.int .i64 to)) (go_keep) (fail)
    go_wp2
    have A4 := (((A2.set 0 (.bool hk)).set 1 (.string (S k))).set 2 (.bool tb)).set 3 (.string (S v))
    refine bodyPost_ret (results_cell3 rfl _ _ w.heap.size 23 #[.bool hk, .string (S k), .bool tb, .string (S v)] (0, 0) _ _ _ rfl rfl rfl A4.drew Try.underlying23 rfl (by kernel_rfl)) rfl ?_
    exact finB hR ((((G2.setCell (p := ⟨w.heap.size, 0, none⟩) (Nat.le_refl _) _).setCell (p := ⟨w.heap.size, 1, none⟩) (Nat.le_refl _) _).setCell (p := ⟨w.heap.size, 2, none⟩) (Nat.le_refl _) _).setCell (p := ⟨w.heap.size, 3, none⟩) (Nat.le_refl _) _).drew rfl
  · rw [if_neg he] at hR
    have h1 : ((e : Int) == 0) = false := by simpa using he
    have h2 : ((e : Int) != 0) = true := by simpa using he
    clear he
    go_enter Try.func22, Try.ntmps22
    go_wp2_with fail
    refine (CR.out (w.heap.size + 1) _ (by have h := Blk.new (w.alloc (.cells #[.bool false, .string (S []), .bool false, .string (S [])] 23)) #[.string (S s), .int .i64 at_, .int .i64 0] 65; rw [World.size_alloc] at h; exact h)).use ?_
    intro w1 r1 g1
    have z1 : w.heap.size + 2 ≤ w1.heap.size := by have := g1.size; simpa using this
    have A1 := ((Blk.new w _ _).alloc _).grown g1 (by simp)
    obtain ⟨t0, t1, t2, t3, t4⟩ := A1.c4
    have f1 := fun i => Blk.frozen A1 i
    obtain ⟨q0, q1, q2, q3⟩ := Blk.c3 r1
    have n1 : w.heap.size ≠ w1.heap.size := by omega
    have n2 : w.heap.size + 1 ≠ w1.heap.size := by omega
    have n3 : w.heap.size < w1.heap.size := by omega
    have n4 : w.heap.size + 1 < w1.heap.size := by omega
    have G1 : Below w.heap.size w w1 := below_own (below_all (below_all (Below.refl _ _))) (by omega) (by simp; omega) g1
    go_wp2_with (fail)
    have X1 := Blk.new w1 #[.bool hk, .string (S k), .bool tb, .string (S v)] 23
    have A2 := A1.alloc (.cells #[.bool hk, .string (S k), .bool tb, .string (S v)] 23)
    have R2 := Blk.alloc r1 (.cells #[.bool hk, .string (S k), .bool tb, .string (S v)] 23)
    have G2 := below_all (o := .cells #[.bool hk, .string (S k), .bool tb, .string (S v)] 23) G1
    have FM := Lib.hid f1
    clear t1 t2 t3 t4 f1 q1 q2 q3
    generalize w1.alloc (.cells #[.bool hk, .string (S k), .bool tb, .string (S v)] 23) = W1 at X1 A2 R2 G2 ⊢
    obtain ⟨t0, t1, t2, t3, t4⟩ := A2.c4
    have f1 := fun i => Blk.frozen A2 i
    obtain ⟨q0, q1, q2, q3⟩ := Blk.c3 R2
    obtain ⟨x0, x1, x2, x3, x4⟩ := X1.c4
    go_region_held3 (fun w' => w'.cell? ⟨w.heap.size + 1, 2, none⟩ = some (.int .i64 e)) (go_keep) (fail)
    go_wp2
    have A4 := (((A2.set 0 (.bool false)).set 1 (.string (S []))).set 2 (.bool false)).set 3 (.string (S []))
    refine bodyPost_ret (results_cell3 rfl _ _ w.heap.size 23 #[.bool false, .string (S []), .bool false, .string (S [])] (0, 0) _ _ _ rfl rfl rfl A4.drew Try.underlying23 rfl (by kernel_rfl)) rfl ?_
    exact finB hR ((((G2.setCell (p := ⟨w.heap.size, 0, none⟩) (Nat.le_refl _) _).setCell (p := ⟨w.heap.size, 1, none⟩) (Nat.le_refl _) _).setCell (p := ⟨w.heap.size, 2, none⟩) (Nat.le_refl _) _).setCell (p := ⟨w.heap.size, 3, none⟩) (Nat.le_refl _) _).drew rfl
end Go.Proofs.Ytikcpfoehapndaa
