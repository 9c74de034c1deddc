/-
  Layer 4: a command got.
-/
import Derived.Test.YthiliodmbipikaaGreatReqQ
import Derived.Test.YthiliodmbipikaaGreatReqI1
import Derived.Test.YthiliodmbipikaaGreatReqS1
set_option linter.unusedVariables false
set_option linter.unusedSimpArgs false
namespace Go.Proofs.YthiliodmbipikaaGreat
open Go.RowKit
attribute [local go_sem] ByteArray.extract_mk ByteArray.mk_append_mk

theorem results_cell2r {P : Program} {fn : Func} {p u1 : Tmp} {ty : TypeId} (h : fn.results = #[.cell p ty, .tmp u1]) (tmps : Array Value) (w : World) (g : Nat) (t : TypeId) (cs : Array Value) (fr : Nat × Nat) (d : TypeDesc) (x1 : Value)
    (hp : tmps.getD p undef = .pointer (some ⟨g, 0, none⟩)) (h1 : tmps.getD u1 undef = x1) (hg : w.heap[g]? = some (.cells cs t fr))
    (hu : P.underlying ty = some d) (hd : (match d with | .struct _ | .array _ _ => true | _ => false) = true) (hi : (P.info? ty).map (·.size) = some cs.size) :
    (results fn tmps).run P w = .ok (.tuple #[.agg cs, x1]) w := by
  have hp' : tmps[p]?.getD undef = .pointer (some ⟨g, 0, none⟩) := by simpa using hp
  have h1' : tmps[u1]?.getD undef = x1 := by simpa using h1
  simp [results, h, hp', h1', asAddr, run_loadVar_row w g t ty cs fr d hg hu hd hi]
theorem at_whole (s : List UInt8) : At s 0 s s.length := ⟨[], [], by simp, by simp, by simp⟩
/-- What is got, as it lies in memory. -/
structure GotIn (s : List UInt8) (w w' : World) (c : Cmd) (rv tv : Value) (n : Nat) : Prop where
  got : Got ccheck cmdText zcmd s c n
  cin : CmdIn w' c rv tv
  bd : CmdBd c
  own1 : ∀ b, rv.ownBlock = some b → w.heap.size ≤ b ∧ b < w'.heap.size
  own2 : ∀ b, tv.ownBlock = some b → w.heap.size ≤ b ∧ b < w'.heap.size
  bel : Below w.heap.size w w'
def GetCall (f : FuncId) (s : List UInt8) (w : World) : Prop :=
  Calls Tryz.prog f #[.string (S s)] w fun x w' => ∃ c rv tv n, x = .returned (.tuple #[.agg (c.arr rv tv), .int .i64 (n : Nat)]) ∧ GotIn s w w' c rv tv n
theorem GetCall.intro {f : FuncId} {s : List UInt8} {w : World} (h : ∀ R : Ending → World → Prop, Hid (∀ w' c rv tv n, GotIn s w w' c rv tv n → R (.returned (.tuple #[.agg (c.arr rv tv), .int .i64 (n : Nat)])) w') → Calls Tryz.prog f #[.string (S s)] w R) : GetCall f s w :=
  h _ fun w' c rv tv n h1 => ⟨c, rv, tv, n, rfl, h1⟩
theorem GetCall.use {f : FuncId} {s : List UInt8} {w : World} {R : Ending → World → Prop} (h : GetCall f s w) (k : ∀ w' c rv tv n, GotIn s w w' c rv tv n → R (.returned (.tuple #[.agg (c.arr rv tv), .int .i64 (n : Nat)])) w') : Calls Tryz.prog f #[.string (S s)] w R :=
  h.mono fun x w' ⟨c, rv, tv, n, he, h1⟩ => by subst he; exact k w' c rv tv n h1
/-- What is got by request.Get: it may be written. -/
def GetCallU (f : FuncId) (s : List UInt8) (w : World) : Prop :=
  Calls Tryz.prog f #[.string (S s)] w fun x w' => ∃ c rv tv n, x = .returned (.tuple #[.agg (c.arr rv tv), .int .i64 (n : Nat)]) ∧ GotIn s w w' c rv tv n ∧ OwnU w' rv ∧ OwnU w' tv
theorem GetCallU.intro {f : FuncId} {s : List UInt8} {w : World} (h : ∀ R : Ending → World → Prop, Hid (∀ w' c rv tv n, (GotIn s w w' c rv tv n ∧ OwnU w' rv ∧ OwnU w' tv) → R (.returned (.tuple #[.agg (c.arr rv tv), .int .i64 (n : Nat)])) w') → Calls Tryz.prog f #[.string (S s)] w R) : GetCallU f s w :=
  h _ fun w' c rv tv n h1 => ⟨c, rv, tv, n, rfl, h1⟩
theorem GetCallU.use {f : FuncId} {s : List UInt8} {w : World} {R : Ending → World → Prop} (h : GetCallU f s w) (k : ∀ w' c rv tv n, GotIn s w w' c rv tv n → OwnU w' rv → OwnU w' tv → R (.returned (.tuple #[.agg (c.arr rv tv), .int .i64 (n : Nat)])) w') : Calls Tryz.prog f #[.string (S s)] w R :=
  h.mono fun x w' ⟨c, rv, tv, n, he, h1, h2, h3⟩ => by subst he; exact k w' c rv tv n h1 h2 h3
theorem zcmd_in (w : World) : CmdIn w zcmd (.slice none 0 0) (.slice none 0 0) := ⟨.inl ⟨rfl, _, _, rfl⟩, .inl ⟨rfl, _, _, rfl⟩⟩
theorem zcmd_bd : CmdBd zcmd := ⟨by simp [zcmd], by simp [zcmd], by simp [zcmd], ⟨by simp [zcmd], by simp [zcmd]⟩, ⟨by simp [zcmd], by simp [zcmd]⟩⟩
theorem KeptR.toBelow {bs : List Nat} {w0 w W : World} (h : KeptR bs w W) (hb : Below w0.heap.size w0 w) (hn : ∀ b ∈ bs, w0.heap.size ≤ b) : Below w0.heap.size w0 W :=
  ⟨h.os.trans hb.os, h.tape.trans hb.tape, h.output.trans hb.output, Nat.le_trans hb.size h.size, fun i hi => (h.block i (Nat.lt_of_lt_of_le hi hb.size) (fun hm => by have := hn i hm; omega)).trans (hb.block i hi)⟩
theorem get_full {s : List UInt8} {k a1 e1 : Int} {c : Cmd} {e2 : Int} (h1 : Step s (fun n : Int => vput n.toNat) (fun n => 0 ≤ n ∧ n ≤ 1099511627776) 0 0 k a1 e1)
    (h2 : ∀ (y : Cmd) (b : Int), e1 = 0 → y.kind = k → ccheck y = 0 → At s a1 ((hasF k.toNat).flatMap (ftxt y)) b → c = y ∧ e2 = 0) :
    ∀ y, ccheck y = 0 → cmdText y = s → c = y ∧ e2 = 0 := by
  intro y hy ht
  have ok := ccheck_ok hy
  have hat := at_whole s
  rw [← ht] at hat
  unfold cmdText at hat
  have hat' : At s 0 (vput y.kind.toNat ++ (hasF y.kind.toNat).flatMap (ftxt y)) s.length := by rw [← ht]; exact hat
  obtain ⟨g1, g2⟩ := hat'.split
  obtain ⟨rfl, rfl, rfl⟩ := h1.full y.kind _ rfl (by have := ok.kind; omega) g1
  exact h2 y _ rfl rfl hy g2
theorem set14 {W : World} {g : Nat} {T : TypeId} {v0 v1 v2 v3 v4 v5 v6 v7 v8 v9 v10 v11 v12 v13 u0 u1 u2 u3 u4 u5 u6 u7 u8 u9 u10 u11 u12 u13 : Value} (h : Blk W g #[u0, u1, u2, u3, u4, u5, u6, u7, u8, u9, u10, u11, u12, u13] T) :
    Blk ((((((((((((((W.setCell ⟨g, 0, none⟩ v0).setCell ⟨g, 1, none⟩ v1).setCell ⟨g, 2, none⟩ v2).setCell ⟨g, 3, none⟩ v3).setCell ⟨g, 4, none⟩ v4).setCell ⟨g, 5, none⟩ v5).setCell ⟨g, 6, none⟩ v6).setCell ⟨g, 7, none⟩ v7).setCell ⟨g, 8, none⟩ v8).setCell ⟨g, 9, none⟩ v9).setCell ⟨g, 10, none⟩ v10).setCell ⟨g, 11, none⟩ v11).setCell ⟨g, 12, none⟩ v12).setCell ⟨g, 13, none⟩ v13) g #[v0, v1, v2, v3, v4, v5, v6, v7, v8, v9, v10, v11, v12, v13] T ∧ KeptR [g] W ((((((((((((((W.setCell ⟨g, 0, none⟩ v0).setCell ⟨g, 1, none⟩ v1).setCell ⟨g, 2, none⟩ v2).setCell ⟨g, 3, none⟩ v3).setCell ⟨g, 4, none⟩ v4).setCell ⟨g, 5, none⟩ v5).setCell ⟨g, 6, none⟩ v6).setCell ⟨g, 7, none⟩ v7).setCell ⟨g, 8, none⟩ v8).setCell ⟨g, 9, none⟩ v9).setCell ⟨g, 10, none⟩ v10).setCell ⟨g, 11, none⟩ v11).setCell ⟨g, 12, none⟩ v12).setCell ⟨g, 13, none⟩ v13) := by
  have h0 : Blk (W.setCell ⟨g, 0, none⟩ v0) g #[v0, u1, u2, u3, u4, u5, u6, u7, u8, u9, u10, u11, u12, u13] T := Blk.set h 0 v0
  have h1 : Blk ((W.setCell ⟨g, 0, none⟩ v0).setCell ⟨g, 1, none⟩ v1) g #[v0, v1, u2, u3, u4, u5, u6, u7, u8, u9, u10, u11, u12, u13] T := Blk.set h0 1 v1
  have h2 : Blk (((W.setCell ⟨g, 0, none⟩ v0).setCell ⟨g, 1, none⟩ v1).setCell ⟨g, 2, none⟩ v2) g #[v0, v1, v2, u3, u4, u5, u6, u7, u8, u9, u10, u11, u12, u13] T := Blk.set h1 2 v2
  have h3 : Blk ((((W.setCell ⟨g, 0, none⟩ v0).setCell ⟨g, 1, none⟩ v1).setCell ⟨g, 2, none⟩ v2).setCell ⟨g, 3, none⟩ v3) g #[v0, v1, v2, v3, u4, u5, u6, u7, u8, u9, u10, u11, u12, u13] T := Blk.set h2 3 v3
  have h4 : Blk (((((W.setCell ⟨g, 0, none⟩ v0).setCell ⟨g, 1, none⟩ v1).setCell ⟨g, 2, none⟩ v2).setCell ⟨g, 3, none⟩ v3).setCell ⟨g, 4, none⟩ v4) g #[v0, v1, v2, v3, v4, u5, u6, u7, u8, u9, u10, u11, u12, u13] T := Blk.set h3 4 v4
  have h5 : Blk ((((((W.setCell ⟨g, 0, none⟩ v0).setCell ⟨g, 1, none⟩ v1).setCell ⟨g, 2, none⟩ v2).setCell ⟨g, 3, none⟩ v3).setCell ⟨g, 4, none⟩ v4).setCell ⟨g, 5, none⟩ v5) g #[v0, v1, v2, v3, v4, v5, u6, u7, u8, u9, u10, u11, u12, u13] T := Blk.set h4 5 v5
  have h6 : Blk (((((((W.setCell ⟨g, 0, none⟩ v0).setCell ⟨g, 1, none⟩ v1).setCell ⟨g, 2, none⟩ v2).setCell ⟨g, 3, none⟩ v3).setCell ⟨g, 4, none⟩ v4).setCell ⟨g, 5, none⟩ v5).setCell ⟨g, 6, none⟩ v6) g #[v0, v1, v2, v3, v4, v5, v6, u7, u8, u9, u10, u11, u12, u13] T := Blk.set h5 6 v6
  have h7 : Blk ((((((((W.setCell ⟨g, 0, none⟩ v0).setCell ⟨g, 1, none⟩ v1).setCell ⟨g, 2, none⟩ v2).setCell ⟨g, 3, none⟩ v3).setCell ⟨g, 4, none⟩ v4).setCell ⟨g, 5, none⟩ v5).setCell ⟨g, 6, none⟩ v6).setCell ⟨g, 7, none⟩ v7) g #[v0, v1, v2, v3, v4, v5, v6, v7, u8, u9, u10, u11, u12, u13] T := Blk.set h6 7 v7
  have h8 : Blk (((((((((W.setCell ⟨g, 0, none⟩ v0).setCell ⟨g, 1, none⟩ v1).setCell ⟨g, 2, none⟩ v2).setCell ⟨g, 3, none⟩ v3).setCell ⟨g, 4, none⟩ v4).setCell ⟨g, 5, none⟩ v5).setCell ⟨g, 6, none⟩ v6).setCell ⟨g, 7, none⟩ v7).setCell ⟨g, 8, none⟩ v8) g #[v0, v1, v2, v3, v4, v5, v6, v7, v8, u9, u10, u11, u12, u13] T := Blk.set h7 8 v8
  have h9 : Blk ((((((((((W.setCell ⟨g, 0, none⟩ v0).setCell ⟨g, 1, none⟩ v1).setCell ⟨g, 2, none⟩ v2).setCell ⟨g, 3, none⟩ v3).setCell ⟨g, 4, none⟩ v4).setCell ⟨g, 5, none⟩ v5).setCell ⟨g, 6, none⟩ v6).setCell ⟨g, 7, none⟩ v7).setCell ⟨g, 8, none⟩ v8).setCell ⟨g, 9, none⟩ v9) g #[v0, v1, v2, v3, v4, v5, v6, v7, v8, v9, u10, u11, u12, u13] T := Blk.set h8 9 v9
  have h10 : Blk (((((((((((W.setCell ⟨g, 0, none⟩ v0).setCell ⟨g, 1, none⟩ v1).setCell ⟨g, 2, none⟩ v2).setCell ⟨g, 3, none⟩ v3).setCell ⟨g, 4, none⟩ v4).setCell ⟨g, 5, none⟩ v5).setCell ⟨g, 6, none⟩ v6).setCell ⟨g, 7, none⟩ v7).setCell ⟨g, 8, none⟩ v8).setCell ⟨g, 9, none⟩ v9).setCell ⟨g, 10, none⟩ v10) g #[v0, v1, v2, v3, v4, v5, v6, v7, v8, v9, v10, u11, u12, u13] T := Blk.set h9 10 v10
  have h11 : Blk ((((((((((((W.setCell ⟨g, 0, none⟩ v0).setCell ⟨g, 1, none⟩ v1).setCell ⟨g, 2, none⟩ v2).setCell ⟨g, 3, none⟩ v3).setCell ⟨g, 4, none⟩ v4).setCell ⟨g, 5, none⟩ v5).setCell ⟨g, 6, none⟩ v6).setCell ⟨g, 7, none⟩ v7).setCell ⟨g, 8, none⟩ v8).setCell ⟨g, 9, none⟩ v9).setCell ⟨g, 10, none⟩ v10).setCell ⟨g, 11, none⟩ v11) g #[v0, v1, v2, v3, v4, v5, v6, v7, v8, v9, v10, v11, u12, u13] T := Blk.set h10 11 v11
  have h12 : Blk (((((((((((((W.setCell ⟨g, 0, none⟩ v0).setCell ⟨g, 1, none⟩ v1).setCell ⟨g, 2, none⟩ v2).setCell ⟨g, 3, none⟩ v3).setCell ⟨g, 4, none⟩ v4).setCell ⟨g, 5, none⟩ v5).setCell ⟨g, 6, none⟩ v6).setCell ⟨g, 7, none⟩ v7).setCell ⟨g, 8, none⟩ v8).setCell ⟨g, 9, none⟩ v9).setCell ⟨g, 10, none⟩ v10).setCell ⟨g, 11, none⟩ v11).setCell ⟨g, 12, none⟩ v12) g #[v0, v1, v2, v3, v4, v5, v6, v7, v8, v9, v10, v11, v12, u13] T := Blk.set h11 12 v12
  have h13 : Blk ((((((((((((((W.setCell ⟨g, 0, none⟩ v0).setCell ⟨g, 1, none⟩ v1).setCell ⟨g, 2, none⟩ v2).setCell ⟨g, 3, none⟩ v3).setCell ⟨g, 4, none⟩ v4).setCell ⟨g, 5, none⟩ v5).setCell ⟨g, 6, none⟩ v6).setCell ⟨g, 7, none⟩ v7).setCell ⟨g, 8, none⟩ v8).setCell ⟨g, 9, none⟩ v9).setCell ⟨g, 10, none⟩ v10).setCell ⟨g, 11, none⟩ v11).setCell ⟨g, 12, none⟩ v12).setCell ⟨g, 13, none⟩ v13) g #[v0, v1, v2, v3, v4, v5, v6, v7, v8, v9, v10, v11, v12, v13] T := Blk.set h12 13 v13
  refine ⟨h13, ?_⟩
  have k0 : KeptR [g] W (W.setCell ⟨g, 0, none⟩ v0) := KeptR.set (KeptR.refl [g] W) (by simp) 0 v0
  have k1 : KeptR [g] W ((W.setCell ⟨g, 0, none⟩ v0).setCell ⟨g, 1, none⟩ v1) := KeptR.set (k0) (by simp) 1 v1
  have k2 : KeptR [g] W (((W.setCell ⟨g, 0, none⟩ v0).setCell ⟨g, 1, none⟩ v1).setCell ⟨g, 2, none⟩ v2) := KeptR.set (k1) (by simp) 2 v2
  have k3 : KeptR [g] W ((((W.setCell ⟨g, 0, none⟩ v0).setCell ⟨g, 1, none⟩ v1).setCell ⟨g, 2, none⟩ v2).setCell ⟨g, 3, none⟩ v3) := KeptR.set (k2) (by simp) 3 v3
  have k4 : KeptR [g] W (((((W.setCell ⟨g, 0, none⟩ v0).setCell ⟨g, 1, none⟩ v1).setCell ⟨g, 2, none⟩ v2).setCell ⟨g, 3, none⟩ v3).setCell ⟨g, 4, none⟩ v4) := KeptR.set (k3) (by simp) 4 v4
  have k5 : KeptR [g] W ((((((W.setCell ⟨g, 0, none⟩ v0).setCell ⟨g, 1, none⟩ v1).setCell ⟨g, 2, none⟩ v2).setCell ⟨g, 3, none⟩ v3).setCell ⟨g, 4, none⟩ v4).setCell ⟨g, 5, none⟩ v5) := KeptR.set (k4) (by simp) 5 v5
  have k6 : KeptR [g] W (((((((W.setCell ⟨g, 0, none⟩ v0).setCell ⟨g, 1, none⟩ v1).setCell ⟨g, 2, none⟩ v2).setCell ⟨g, 3, none⟩ v3).setCell ⟨g, 4, none⟩ v4).setCell ⟨g, 5, none⟩ v5).setCell ⟨g, 6, none⟩ v6) := KeptR.set (k5) (by simp) 6 v6
  have k7 : KeptR [g] W ((((((((W.setCell ⟨g, 0, none⟩ v0).setCell ⟨g, 1, none⟩ v1).setCell ⟨g, 2, none⟩ v2).setCell ⟨g, 3, none⟩ v3).setCell ⟨g, 4, none⟩ v4).setCell ⟨g, 5, none⟩ v5).setCell ⟨g, 6, none⟩ v6).setCell ⟨g, 7, none⟩ v7) := KeptR.set (k6) (by simp) 7 v7
  have k8 : KeptR [g] W (((((((((W.setCell ⟨g, 0, none⟩ v0).setCell ⟨g, 1, none⟩ v1).setCell ⟨g, 2, none⟩ v2).setCell ⟨g, 3, none⟩ v3).setCell ⟨g, 4, none⟩ v4).setCell ⟨g, 5, none⟩ v5).setCell ⟨g, 6, none⟩ v6).setCell ⟨g, 7, none⟩ v7).setCell ⟨g, 8, none⟩ v8) := KeptR.set (k7) (by simp) 8 v8
  have k9 : KeptR [g] W ((((((((((W.setCell ⟨g, 0, none⟩ v0).setCell ⟨g, 1, none⟩ v1).setCell ⟨g, 2, none⟩ v2).setCell ⟨g, 3, none⟩ v3).setCell ⟨g, 4, none⟩ v4).setCell ⟨g, 5, none⟩ v5).setCell ⟨g, 6, none⟩ v6).setCell ⟨g, 7, none⟩ v7).setCell ⟨g, 8, none⟩ v8).setCell ⟨g, 9, none⟩ v9) := KeptR.set (k8) (by simp) 9 v9
  have k10 : KeptR [g] W (((((((((((W.setCell ⟨g, 0, none⟩ v0).setCell ⟨g, 1, none⟩ v1).setCell ⟨g, 2, none⟩ v2).setCell ⟨g, 3, none⟩ v3).setCell ⟨g, 4, none⟩ v4).setCell ⟨g, 5, none⟩ v5).setCell ⟨g, 6, none⟩ v6).setCell ⟨g, 7, none⟩ v7).setCell ⟨g, 8, none⟩ v8).setCell ⟨g, 9, none⟩ v9).setCell ⟨g, 10, none⟩ v10) := KeptR.set (k9) (by simp) 10 v10
  have k11 : KeptR [g] W ((((((((((((W.setCell ⟨g, 0, none⟩ v0).setCell ⟨g, 1, none⟩ v1).setCell ⟨g, 2, none⟩ v2).setCell ⟨g, 3, none⟩ v3).setCell ⟨g, 4, none⟩ v4).setCell ⟨g, 5, none⟩ v5).setCell ⟨g, 6, none⟩ v6).setCell ⟨g, 7, none⟩ v7).setCell ⟨g, 8, none⟩ v8).setCell ⟨g, 9, none⟩ v9).setCell ⟨g, 10, none⟩ v10).setCell ⟨g, 11, none⟩ v11) := KeptR.set (k10) (by simp) 11 v11
  have k12 : KeptR [g] W (((((((((((((W.setCell ⟨g, 0, none⟩ v0).setCell ⟨g, 1, none⟩ v1).setCell ⟨g, 2, none⟩ v2).setCell ⟨g, 3, none⟩ v3).setCell ⟨g, 4, none⟩ v4).setCell ⟨g, 5, none⟩ v5).setCell ⟨g, 6, none⟩ v6).setCell ⟨g, 7, none⟩ v7).setCell ⟨g, 8, none⟩ v8).setCell ⟨g, 9, none⟩ v9).setCell ⟨g, 10, none⟩ v10).setCell ⟨g, 11, none⟩ v11).setCell ⟨g, 12, none⟩ v12) := KeptR.set (k11) (by simp) 12 v12
  have k13 : KeptR [g] W ((((((((((((((W.setCell ⟨g, 0, none⟩ v0).setCell ⟨g, 1, none⟩ v1).setCell ⟨g, 2, none⟩ v2).setCell ⟨g, 3, none⟩ v3).setCell ⟨g, 4, none⟩ v4).setCell ⟨g, 5, none⟩ v5).setCell ⟨g, 6, none⟩ v6).setCell ⟨g, 7, none⟩ v7).setCell ⟨g, 8, none⟩ v8).setCell ⟨g, 9, none⟩ v9).setCell ⟨g, 10, none⟩ v10).setCell ⟨g, 11, none⟩ v11).setCell ⟨g, 12, none⟩ v12).setCell ⟨g, 13, none⟩ v13) := KeptR.set (k12) (by simp) 13 v13
  exact k13
/-- The cells of a command's block. -/
theorem arr_cells {W : World} {b : Nat} {v0 v1 v2 v3 v4 v5 v6 v7 v8 v9 v10 v11 v12 v13 : Value} {T : TypeId} (h : Blk W b #[v0, v1, v2, v3, v4, v5, v6, v7, v8, v9, v10, v11, v12, v13] T) :
    Hid (Blk W b #[v0, v1, v2, v3, v4, v5, v6, v7, v8, v9, v10, v11, v12, v13] T) ∧ b < W.heap.size ∧ W.cell? ⟨b, 0, none⟩ = some v0 ∧ W.cell? ⟨b, 1, none⟩ = some v1 ∧ W.cell? ⟨b, 2, none⟩ = some v2 ∧ W.cell? ⟨b, 3, none⟩ = some v3 ∧ W.cell? ⟨b, 4, none⟩ = some v4 ∧ W.cell? ⟨b, 5, none⟩ = some v5 ∧ W.cell? ⟨b, 6, none⟩ = some v6 ∧ W.cell? ⟨b, 7, none⟩ = some v7 ∧ W.cell? ⟨b, 8, none⟩ = some v8 ∧ W.cell? ⟨b, 9, none⟩ = some v9 ∧ W.cell? ⟨b, 10, none⟩ = some v10 ∧ W.cell? ⟨b, 11, none⟩ = some v11 ∧ W.cell? ⟨b, 12, none⟩ = some v12 ∧ W.cell? ⟨b, 13, none⟩ = some v13 :=
  ⟨Lib.hid h, h.lt, h.cell 0, h.cell 1, h.cell 2, h.cell 3, h.cell 4, h.cell 5, h.cell 6, h.cell 7, h.cell 8, h.cell 9, h.cell 10, h.cell 11, h.cell 12, h.cell 13⟩
set_option maxHeartbeats 8000000 in
set_option maxRecDepth 100000 in
theorem get4u (s : List UInt8) (w : World) (hl9 : s.length ≤ 900000) : GetCallU 5 s w := by
  refine GetCallU.intro fun R hR => ?_
  have HL : Hid (s.length ≤ maxLen) := Lib.hid (by unfold maxLen; omega)
  have HL9 := Lib.hid hl9
  clear hl9
  have p0 : Blk (((w.alloc (.cells (zcmd.arr (.slice none 0 0) (.slice none 0 0)) 29)).alloc (.cells (rdr s 0 0) 48)).alloc (.cells (zcmd.arr (.slice none 0 0) (.slice none 0 0)) 29)) (w.heap.size + 1) (rdr s 0 0) 48 := by
    have h := Blk.new (w.alloc (.cells (zcmd.arr (.slice none 0 0) (.slice none 0 0)) 29)) (rdr s 0 0) 48
    rw [World.size_alloc] at h
    exact h.alloc _
  have q0 : Blk (((w.alloc (.cells (zcmd.arr (.slice none 0 0) (.slice none 0 0)) 29)).alloc (.cells (rdr s 0 0) 48)).alloc (.cells (zcmd.arr (.slice none 0 0) (.slice none 0 0)) 29)) (w.heap.size + 1 + 1) (zcmd.arr (.slice none 0 0) (.slice none 0 0)) 29 := by
    have h := Blk.new ((w.alloc (.cells (zcmd.arr (.slice none 0 0) (.slice none 0 0)) 29)).alloc (.cells (rdr s 0 0) 48)) (zcmd.arr (.slice none 0 0) (.slice none 0 0)) 29
    rw [World.size_alloc, World.size_alloc] at h
    exact h
  have r0 : Blk (((w.alloc (.cells (zcmd.arr (.slice none 0 0) (.slice none 0 0)) 29)).alloc (.cells (rdr s 0 0) 48)).alloc (.cells (zcmd.arr (.slice none 0 0) (.slice none 0 0)) 29)) w.heap.size (zcmd.arr (.slice none 0 0) (.slice none 0 0)) 29 := ((Blk.new w _ _).alloc _).alloc _
  have hb0 : Below w.heap.size w (((w.alloc (.cells (zcmd.arr (.slice none 0 0) (.slice none 0 0)) 29)).alloc (.cells (rdr s 0 0) 48)).alloc (.cells (zcmd.arr (.slice none 0 0) (.slice none 0 0)) 29)) := below_all (below_all (below_all (Below.refl _ _)))
  have cN := Lib.hid (r_number s 0 0 (w.heap.size + 1) (w.heap.size + 1 + 1) 0 _ _ _ HL.out p0 q0 (by omega) rfl)
  have HR0 := Lib.hid r0
  have HB0 := Lib.hid hb0
  clear p0 q0 r0 hb0
  go_enter Tryz.func5, Tryz.ntmps5
  go_wp2_with fail
  refine cN.out.use ?_
  intro w1 v a1 e1 p1 q1 g1 st
  have ST : Hid (Step s (fun n : Int => vput n.toNat) (fun n => 0 ≤ n ∧ n ≤ 1099511627776) 0 0 v a1 e1) := Lib.hid st
  have r1 := HR0.out.keptR g1 (by simp; omega)
  have B1 := Lib.hid (g1.toBelow HB0.out (by simp; omega))
  have cV := Lib.hid (r_visit s v a1 e1 (w.heap.size + 1) (w.heap.size + 1 + 1) w1 HL9.out p1 q1 (by omega))
  have HR1 := Lib.hid r1
  have hs1 : w.heap.size + 1 + 1 < w1.heap.size := q1.lt
  clear r1 p1 q1 g1 st cN HR0 HB0
  go_wp2_with fail
  refine cV.out.use ?_
  intro w2 c rv tv a2 e2 P
  have full := Lib.hid (get_full (c := c) (e2 := e2) ST.out (fun y b h0 hk hy hat => by obtain ⟨h1, h2, h3⟩ := P.full y b h0 hk hy hat; exact ⟨h1, h3⟩))
  have r2 := HR1.out.keptR P.kp (by simp; omega)
  have B2 := P.kp.toBelow B1.out (by simp; omega)
  have hs2 : w1.heap.size ≤ w2.heap.size := P.kp.size
  have cP := Lib.hid (put4 c rv tv w2 P.cin P.bd (fun b hb => (P.own1 b hb).2.1) (fun b hb => (P.own2 b hb).2.1))
  have HP := Lib.hid P
  have q2 := P.op
  have p2 := P.rd
  clear P
  have HR2 := Lib.hid r2
  have HB2 := Lib.hid B2
  clear r2 B2 HR1 B1 cV ST
  have hcp : cmdPut c = if ccheck c = 0 then (cmdText c, 0) else ([], ccheck c) := rfl
  have HCP := Lib.hid hcp
  clear hcp
  obtain ⟨ra, rc, hrv⟩ := HP.out.cin.recs.form
  obtain ⟨ta, tc, htv⟩ := HP.out.cin.tops.form
  have hfin : ∀ W n, Got ccheck cmdText zcmd s c n → KeptR [w.heap.size] w2 W → R (.returned (.tuple #[.agg (c.arr rv tv), .int .i64 (n : Nat)])) W := fun W n hg hk =>
    hR.out W c rv tv n ⟨⟨hg, HP.out.cin.keptR hk (fun b hb => by have := (HP.out.own1 b hb).1; simp; omega) (fun b hb => by have := (HP.out.own2 b hb).1; simp; omega), HP.out.bd, fun b hb => by have h1 := (HP.out.own1 b hb).1; have h2 := (HP.out.own1 b hb).2.1; have := hk.size; omega, fun b hb => by have h1 := (HP.out.own2 b hb).1; have h2 := (HP.out.own2 b hb).2.1; have := hk.size; omega, hk.toBelow HB2.out (by simp)⟩, OwnU.keptR (fun b hb => (HP.out.own1 b hb).2) hk (fun b hb => by have := (HP.out.own1 b hb).1; simp; omega), OwnU.keptR (fun b hb => (HP.out.own2 b hb).2) hk (fun b hb => by have := (HP.out.own2 b hb).1; simp; omega)⟩
  have hbad : ∀ W, Got ccheck cmdText zcmd s zcmd 40 → KeptR [w.heap.size] w2 W → R (.returned (.tuple #[.agg (zcmd.arr (.slice none 0 0) (.slice none 0 0)), .int .i64 (40 : Nat)])) W := fun W hg hk =>
    hR.out W zcmd _ _ 40 ⟨⟨hg, zcmd_in W, zcmd_bd, by simp [Value.ownBlock], by simp [Value.ownBlock], hk.toBelow HB2.out (by simp)⟩, fun b hb => by simp [Value.ownBlock] at hb, fun b hb => by simp [Value.ownBlock] at hb⟩
  have HFIN := Lib.hid hfin
  have HBAD := Lib.hid hbad
  clear hfin hbad
  have gno := Lib.hid (fun h => got_no (z := zcmd) (c := c) (e := e2) h full.out)
  have gok := Lib.hid (fun h1 h2 => got_ok (z := zcmd) (c := c) (e := e2) h1 h2 full.out)
  obtain ⟨X, hX⟩ : ∃ X, ccheck c = X := ⟨_, rfl⟩
  obtain ⟨L, hL⟩ : ∃ L, cmdText c = L := ⟨_, rfl⟩
  rw [hX, hL] at gno gok HCP
  rw [HCP.out] at cP
  clear hX hL HCP full HP
  subst hrv htv
  obtain ⟨kind, topic, pn, n, off, bp, be, bq, recs, group, member, gen, robin, tops⟩ := c
  dsimp only [Cmd.arr, zcmd, rdr] at q2 cP HR2 HFIN HBAD p2
  obtain ⟨HQ2, k2, x0, x1, x2, x3, x4, x5, x6, x7, x8, x9, x10, x11, x12, x13⟩ := arr_cells q2
  clear q2
  by_cases hz : X = 0
  · subst hz
    rw [if_pos rfl] at cP
    dsimp only at cP
    go_wp2_with fail
    refine cP.out.use ?_
    intro w3 b3
    have p3 := p2.below b3
    obtain ⟨k3, y0, y1, y2⟩ := p3.c3
    have R3 := HR2.out.below b3
    have kr3 := R3.lt
    have fr3 : ∀ i, w3.frozen? ⟨w.heap.size, i, none⟩ = false := fun i => Blk.frozen R3 i
    obtain ⟨HR3, kr4, rr0, rr1, rr2, rr3, rr4, rr5, rr6, rr7, rr8, rr9, rr10, rr11, rr12, rr13⟩ := arr_cells R3
    obtain ⟨HQ3, kk3, z0, z1, z2, z3, z4, z5, z6, z7, z8, z9, z10, z11, z12, z13⟩ := arr_cells (HQ2.out.below b3)
    have K3 := Lib.hid ((KeptR.refl [w.heap.size] w2).bel b3)
    clear p2 p3 R3 b3 x0 x1 x2 x3 x4 x5 x6 x7 x8 x9 x10 x11 x12 x13
    by_cases he : e2 = 0
    · subst he
      by_cases ht : L = s
      · have g := Lib.hid (gok.out (by first | rfl | trivial) ht)
        have t1 : (L != s) = false := by simp [ht]
        have t5 : (L == s) = true := by simp [ht]
        clear gno gok ht
        go_wp2_with fail
        refine bodyPost_ret (results_cell2r rfl _ _ w.heap.size 29 #[.int .i64 kind, .string (S topic), .int .i64 pn, .int .i64 n, .int .i64 off, .int .i64 bp, .int .i64 be, .int .i64 bq, .slice ra recs.length rc, .string (S group), .string (S member), .int .i64 gen, .bool robin, .slice ta tops.length tc] (0, 0) _ _ rfl rfl ?c1 Tryz.underlying29 rfl (by kernel_rfl)) rfl ?_
        case c1 => exact (set14 HR3.out).1
        exact HFIN.out _ 0 g.out (K3.out.trans (set14 HR3.out).2)
      · have g := Lib.hid (gno.out (.inr (.inr ht)))
        have t1 : (L != s) = true := by simpa using ht
        have t5 : (L == s) = false := by simpa using ht
        clear gno gok ht
        go_wp2_with fail
        refine bodyPost_ret (results_cell2r rfl _ _ w.heap.size 29 #[.int .i64 0, .string (S []), .int .i64 0, .int .i64 0, .int .i64 0, .int .i64 0, .int .i64 0, .int .i64 0, .slice none 0 0, .string (S []), .string (S []), .int .i64 0, .bool false, .slice none 0 0] (0, 0) _ _ rfl rfl ?c2 Tryz.underlying29 rfl (by kernel_rfl)) rfl ?_
        case c2 => exact (set14 HR3.out).1
        exact HBAD.out _ g.out (K3.out.trans (set14 HR3.out).2)
    · have g := Lib.hid (gno.out (.inl he))
      have t1 : ((e2 : Int) == 0) = false := by simpa using he
      have t2 : ((e2 : Int) != 0) = true := by simpa using he
      clear gno gok he
      go_wp2_with fail
      refine bodyPost_ret (results_cell2r rfl _ _ w.heap.size 29 #[.int .i64 0, .string (S []), .int .i64 0, .int .i64 0, .int .i64 0, .int .i64 0, .int .i64 0, .int .i64 0, .slice none 0 0, .string (S []), .string (S []), .int .i64 0, .bool false, .slice none 0 0] (0, 0) _ _ rfl rfl ?c3 Tryz.underlying29 rfl (by kernel_rfl)) rfl ?_
      case c3 => exact (set14 HR3.out).1
      exact HBAD.out _ g.out (K3.out.trans (set14 HR3.out).2)
  · have g := Lib.hid (gno.out (.inr (.inl hz)))
    rw [if_neg hz] at cP
    dsimp only at cP
    have t3 : ((X : Int) != 0) = true := by simpa using hz
    have t4 : ((X : Int) == 0) = false := by simpa using hz
    clear gno gok hz
    go_wp2_with fail
    refine cP.out.use ?_
    intro w3 b3
    have p3 := p2.below b3
    obtain ⟨k3, y0, y1, y2⟩ := p3.c3
    have R3 := HR2.out.below b3
    have kr3 := R3.lt
    have fr3 : ∀ i, w3.frozen? ⟨w.heap.size, i, none⟩ = false := fun i => Blk.frozen R3 i
    obtain ⟨HR3, kr4, rr0, rr1, rr2, rr3, rr4, rr5, rr6, rr7, rr8, rr9, rr10, rr11, rr12, rr13⟩ := arr_cells R3
    have K3 := Lib.hid ((KeptR.refl [w.heap.size] w2).bel b3)
    clear p2 p3 R3 b3 x0 x1 x2 x3 x4 x5 x6 x7 x8 x9 x10 x11 x12 x13
    by_cases he : e2 = 0
    · subst he
      go_wp2_with fail
      refine bodyPost_ret (results_cell2r rfl _ _ w.heap.size 29 #[.int .i64 0, .string (S []), .int .i64 0, .int .i64 0, .int .i64 0, .int .i64 0, .int .i64 0, .int .i64 0, .slice none 0 0, .string (S []), .string (S []), .int .i64 0, .bool false, .slice none 0 0] (0, 0) _ _ rfl rfl ?c4 Tryz.underlying29 rfl (by kernel_rfl)) rfl ?_
      case c4 => exact (set14 HR3.out).1
      exact HBAD.out _ g.out (K3.out.trans (set14 HR3.out).2)
    · have t1 : ((e2 : Int) == 0) = false := by simpa using he
      have t2 : ((e2 : Int) != 0) = true := by simpa using he
      clear he
      go_wp2_with fail
      refine bodyPost_ret (results_cell2r rfl _ _ w.heap.size 29 #[.int .i64 0, .string (S []), .int .i64 0, .int .i64 0, .int .i64 0, .int .i64 0, .int .i64 0, .int .i64 0, .slice none 0 0, .string (S []), .string (S []), .int .i64 0, .bool false, .slice none 0 0] (0, 0) _ _ rfl rfl ?c5 Tryz.underlying29 rfl (by kernel_rfl)) rfl ?_
      case c5 => exact (set14 HR3.out).1
      exact HBAD.out _ g.out (K3.out.trans (set14 HR3.out).2)
theorem get4 (s : List UInt8) (w : World) (hl9 : s.length ≤ 900000) : GetCall 5 s w :=
  (get4u s w hl9).mono fun x w' ⟨c, rv, tv, n, he, h1, _⟩ => ⟨c, rv, tv, n, he, h1⟩
end Go.Proofs.YthiliodmbipikaaGreat
