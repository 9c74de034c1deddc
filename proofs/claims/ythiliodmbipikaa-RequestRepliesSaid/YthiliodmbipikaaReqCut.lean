/-
  Layer 4's statements: a command cut short.
-/
import Derived.Test.YthiliodmbipikaaReqAr
import Derived.Test.YthiliodmbipikaaReqR
import Derived.Test.YthiliodmbipikaaRecS
import Derived.Deep.DeepCutAuto
import Derived.Deep.RegionHeldLaw
set_option linter.unusedVariables false
set_option linter.unusedSimpArgs false
namespace Go.Proofs.Ythiliodmbipikaa
open Go.RowKit
attribute [local go_sem] ByteArray.extract_mk ByteArray.mk_append_mk

theorem results_cell1r {P : Program} {fn : Func} {p : Tmp} {ty : TypeId} (h : fn.results = #[.cell p ty]) (tmps : Array Value) (w : World) (g : Nat) (t : TypeId) (cs : Array Value) (fr : Nat × Nat) (d : TypeDesc)
    (hp : tmps.getD p undef = .pointer (some ⟨g, 0, none⟩)) (hg : w.heap[g]? = some (.cells cs t fr))
    (hu : P.underlying ty = some d) (hd : (match d with | .struct _ | .array _ _ => true | _ => false) = true) (hi : (P.info? ty).map (·.size) = some cs.size) :
    (results fn tmps).run P w = .ok (.agg cs) w := by
  have hp' : tmps[p]?.getD undef = .pointer (some ⟨g, 0, none⟩) := by simpa using hp
  simp [results, h, hp', asAddr, run_loadVar_row w g t ty cs fr d hg hu hd hi]
def cutTops (l : List (List UInt8)) : List (List UInt8) := (l.take 12).map (·.take 40)
def cutC (c : Cmd) : Cmd := { c with topic := c.topic.take 40, group := c.group.take 40, member := c.member.take 40, recs := cutRs c.recs, tops := cutTops c.tops }
/-- A command handed back: it lies in new blocks. -/
structure NewCmd (w w' : World) (c : Cmd) (rv tv : Value) : Prop where
  cin : CmdIn w' c rv tv
  own1 : ∀ b, rv.ownBlock = some b → w.heap.size ≤ b ∧ b < w'.heap.size
  own2 : ∀ b, tv.ownBlock = some b → w.heap.size ≤ b ∧ b < w'.heap.size
  bel : Below w.heap.size w w'
def CutCall (c : Cmd) (rv tv : Value) (w : World) : Prop :=
  Calls Try.prog 10 #[.agg (c.arr rv tv)] w fun x w' => ∃ rv' tv', x = .returned (.agg ((cutC c).arr rv' tv')) ∧ NewCmd w w' (cutC c) rv' tv'
theorem CutCall.intro {c : Cmd} {rv tv : Value} {w : World} (h : ∀ R : Ending → World → Prop, Hid (∀ w' rv' tv', NewCmd w w' (cutC c) rv' tv' → R (.returned (.agg ((cutC c).arr rv' tv'))) w') → Calls Try.prog 10 #[.agg (c.arr rv tv)] w R) : CutCall c rv tv w :=
  h _ fun w' rv' tv' h1 => ⟨rv', tv', rfl, h1⟩
theorem CutCall.use {c : Cmd} {rv tv : Value} {w : World} {R : Ending → World → Prop} (h : CutCall c rv tv w) (k : ∀ w' rv' tv', NewCmd w w' (cutC c) rv' tv' → R (.returned (.agg ((cutC c).arr rv' tv'))) w') : Calls Try.prog 10 #[.agg (c.arr rv tv)] w R :=
  h.mono fun x w' ⟨rv', tv', he, h1⟩ => by subst he; exact k w' rv' tv' h1
/-- The blocks of Cut. -/
structure KInv (w0 W : World) (cs : Array Value) (ds : Value → Array Value) (rv : Value) (rl : List Rec) (v : Value) (ts : List (List UInt8)) : Prop where
  bx : Blk W w0.heap.size cs 29
  rs : Blk W (w0.heap.size + 1) (zcmd.arr (.slice none 0 0) (.slice none 0 0)) 29
  pt : Blk W (w0.heap.size + 1 + 1) (ds v) 29
  own : W.ownsRow w0.heap.size 9 1 v ts.length (ts.map strV)
  ownr : W.ownsRow w0.heap.size 68 4 rv rl.length (rl.flatMap Rec.cells)
  below : Below w0.heap.size w0 W
theorem rows_apart {w : World} {B B' s s' n n' : Nat} {e e' : TypeId} {v v' : Value} {xs xs' : List Value} (h : w.ownsRow B e s v n xs) (k : w.ownsRow B' e' s' v' n' xs') (he : e ≠ e') : v.ownBlock = none ∨ v.ownBlock ≠ v'.ownBlock := by
  rcases h.2 with ⟨rfl, _⟩ | ⟨q, cap, cur, rfl, _, hq, _⟩
  · exact .inl rfl
  · refine .inr fun e1 => ?_
    rcases k.2 with ⟨rfl, _⟩ | ⟨q2, cap2, cur2, rfl, _, hq2, _⟩
    · simp [Value.ownBlock] at e1
    · simp only [Value.ownBlock, Option.some.injEq] at e1
      subst e1
      rw [hq] at hq2
      simp only [Option.some.injEq, Obj.cells.injEq] at hq2
      exact he hq2.2.1
section
variable {w0 W V : World} {cs : Array Value} {ds : Value → Array Value} {rv : Value} {rl : List Rec} {v v' : Value} {ts ts' : List (List UInt8)}
theorem KInv.bel' (h : KInv w0 W cs ds rv rl v ts) (hb : Below W.heap.size W V) : KInv w0 V cs ds rv rl v ts :=
  ⟨h.bx.below hb, h.rs.below hb, h.pt.below hb, own_keptR h.own ((KeptR.refl [] W).bel hb) (by simp), own_keptR h.ownr ((KeptR.refl [] W).bel hb) (by simp), h.below.trans (hb.mono h.below.size)⟩
theorem KInv.app (h : KInv w0 W cs ds rv rl v ts) (g : W.grownBy V v.ownBlock) (o : V.ownsRow w0.heap.size 9 1 v' ts'.length (ts'.map strV)) (hd : (ds v).setIfInBounds 13 v' = ds v') :
    KInv w0 (V.setCell ⟨w0.heap.size + 1 + 1, 13, none⟩ v') cs ds rv rl v' ts' := by
  have hx := h.pt.grown g (own_ne h.own h.pt (by decide))
  have B0 : Below w0.heap.size w0 V := ⟨g.os.trans h.below.os, g.tape.trans h.below.tape, g.output.trans h.below.output, Nat.le_trans h.below.size g.size, fun k hk => (g.block k (Nat.lt_of_lt_of_le hk h.below.size) (fun e1 => by have := (h.own.lt k e1.symm).1; omega)).trans (h.below.block k hk)⟩
  have G2 : V.grownBy (V.setCell ⟨w0.heap.size + 1 + 1, 13, none⟩ v') (some (w0.heap.size + 1 + 1)) := grown_set (grown_refl _ _) _ _
  have orr := h.ownr.kept g (rows_apart h.ownr h.own (by decide))
  exact ⟨(h.bx.grown g (own_ne h.own h.bx (by decide))).setOther (by simp; try omega) _, (h.rs.grown g (own_ne h.own h.rs (by decide))).setOther (by simp; try omega) _, hd ▸ hx.set 13 v', o.kept G2 (.inr (Ne.symm (own_ne o hx (by decide)))), orr.kept G2 (.inr (Ne.symm (own_ne orr hx (by decide)))), B0.setCell (p := ⟨w0.heap.size + 1 + 1, 13, none⟩) (by simp; try omega) _⟩
theorem KInv.mid (h : KInv w0 W cs ds rv rl v ts) (g : W.grownBy V v.ownBlock) : Below w0.heap.size w0 V ∧ Blk V w0.heap.size cs 29 ∧ Blk V (w0.heap.size + 1 + 1) (ds v) 29 :=
  ⟨⟨g.os.trans h.below.os, g.tape.trans h.below.tape, g.output.trans h.below.output, Nat.le_trans h.below.size g.size, fun k hk => (g.block k (Nat.lt_of_lt_of_le hk h.below.size) (fun e1 => by have := (h.own.lt k e1.symm).1; omega)).trans (h.below.block k hk)⟩,
    h.bx.grown g (own_ne h.own h.bx (by decide)), h.pt.grown g (own_ne h.own h.pt (by decide))⟩
theorem set5at {W : World} {g : Nat} {T : TypeId} {u0 u1 u2 u3 u4 u5 u6 u7 u8 u9 u10 u11 u12 u13 : Value} (v5 v6 v7 v8 v13 : Value) (h : Blk W g #[u0, u1, u2, u3, u4, u5, u6, u7, u8, u9, u10, u11, u12, u13] T) :
    Blk (((((W.setCell ⟨g, 5, none⟩ v5).setCell ⟨g, 6, none⟩ v6).setCell ⟨g, 7, none⟩ v7).setCell ⟨g, 8, none⟩ v8).setCell ⟨g, 13, none⟩ v13) g #[u0, u1, u2, u3, u4, v5, v6, v7, v8, u9, u10, u11, u12, v13] T ∧
      KeptR [g] W (((((W.setCell ⟨g, 5, none⟩ v5).setCell ⟨g, 6, none⟩ v6).setCell ⟨g, 7, none⟩ v7).setCell ⟨g, 8, none⟩ v8).setCell ⟨g, 13, none⟩ v13) := by
  have h5 : Blk (W.setCell ⟨g, 5, none⟩ v5) g #[u0, u1, u2, u3, u4, v5, u6, u7, u8, u9, u10, u11, u12, u13] T := Blk.set h 5 v5
  have h6 : Blk ((W.setCell ⟨g, 5, none⟩ v5).setCell ⟨g, 6, none⟩ v6) g #[u0, u1, u2, u3, u4, v5, v6, u7, u8, u9, u10, u11, u12, u13] T := Blk.set h5 6 v6
  have h7 : Blk (((W.setCell ⟨g, 5, none⟩ v5).setCell ⟨g, 6, none⟩ v6).setCell ⟨g, 7, none⟩ v7) g #[u0, u1, u2, u3, u4, v5, v6, v7, u8, u9, u10, u11, u12, u13] T := Blk.set h6 7 v7
  have h8 : Blk ((((W.setCell ⟨g, 5, none⟩ v5).setCell ⟨g, 6, none⟩ v6).setCell ⟨g, 7, none⟩ v7).setCell ⟨g, 8, none⟩ v8) g #[u0, u1, u2, u3, u4, v5, v6, v7, v8, u9, u10, u11, u12, u13] T := Blk.set h7 8 v8
  have h13 : Blk (((((W.setCell ⟨g, 5, none⟩ v5).setCell ⟨g, 6, none⟩ v6).setCell ⟨g, 7, none⟩ v7).setCell ⟨g, 8, none⟩ v8).setCell ⟨g, 13, none⟩ v13) g #[u0, u1, u2, u3, u4, v5, v6, v7, v8, u9, u10, u11, u12, v13] T := Blk.set h8 13 v13
  exact ⟨h13, (((((KeptR.refl [g] W).set (by simp) 5 v5).set (by simp) 6 v6).set (by simp) 7 v7).set (by simp) 8 v8).set (by simp) 13 v13⟩
end
set_option maxHeartbeats 4000000 in
set_option maxRecDepth 100000 in
theorem cut4 (c : Cmd) (rv tv : Value) (w : World) (ha : CmdArg w c rv tv) : CutCall c rv tv w := by
  refine CutCall.intro fun R hR => ?_
  obtain ⟨hr, ht, hrb, htb, l1, l2, l3, _⟩ := ha
  obtain ⟨kind, topic, pn, n, off, bp, be, bq, recs, group, member, gen, robin, tops⟩ := c
  dsimp only [cutC, Cmd.arr] at *
  obtain ⟨ra, rc, hrv⟩ := hr.form
  obtain ⟨ta, tc, htv⟩ := ht.form
  have cB := Lib.hid (fun W (hW : Below w.heap.size w W) => bound_any bp be bq rv recs W (hr.below hW) hrb)
  have HT := Lib.hid (fun W (hW : Below w.heap.size w W) => ht.below hW)
  have HTB := Lib.hid htb.2
  subst hrv htv
  clear hr ht hrb htb
  unfold maxLen at l1 l2 l3
  go_enter Try.func10, Try.ntmps10
  go_upto_region 2 with fail
  go_cut [] (fun wx => wx = ((w.alloc (.cells #[.int .i64 kind, .string (S topic), .int .i64 pn, .int .i64 n, .int .i64 off, .int .i64 bp, .int .i64 be, .int .i64 bq, .slice ra recs.length rc, .string (S group), .string (S member), .int .i64 gen, .bool robin, .slice ta tops.length tc] 29)).alloc (.cells #[.int .i64 0, .string (S []), .int .i64 0, .int .i64 0, .int .i64 0, .int .i64 0, .int .i64 0, .int .i64 0, .slice none 0 0, .string (S []), .string (S []), .int .i64 0, .bool false, .slice none 0 0] 29)).alloc (.cells #[.int .i64 kind, .string (S (topic.take 40)), .int .i64 pn, .int .i64 n, .int .i64 off, .int .i64 bp, .int .i64 be, .int .i64 bq, .slice ra recs.length rc, .string (S group), .string (S member), .int .i64 gen, .bool robin, .slice ta tops.length tc] 29))
  case' first =>
    have q1 : ((min (topic.length : Int) 40).toNat) = min topic.length 40 := by omega
    rcases Nat.lt_or_ge 40 topic.length with a1 | a1
    · go_wp2_with fail
      go_meet
      simp only [Nat.min_eq_right (Nat.le_of_lt a1)]
    · go_wp2_with fail
      go_meet
      rw [List.take_of_length_le a1]
  subst hcut
  go_upto_region 3 with fail
  go_cut [] (fun wx => wx = ((w.alloc (.cells #[.int .i64 kind, .string (S topic), .int .i64 pn, .int .i64 n, .int .i64 off, .int .i64 bp, .int .i64 be, .int .i64 bq, .slice ra recs.length rc, .string (S group), .string (S member), .int .i64 gen, .bool robin, .slice ta tops.length tc] 29)).alloc (.cells #[.int .i64 0, .string (S []), .int .i64 0, .int .i64 0, .int .i64 0, .int .i64 0, .int .i64 0, .int .i64 0, .slice none 0 0, .string (S []), .string (S []), .int .i64 0, .bool false, .slice none 0 0] 29)).alloc (.cells #[.int .i64 kind, .string (S (topic.take 40)), .int .i64 pn, .int .i64 n, .int .i64 off, .int .i64 bp, .int .i64 be, .int .i64 bq, .slice ra recs.length rc, .string (S (group.take 40)), .string (S member), .int .i64 gen, .bool robin, .slice ta tops.length tc] 29))
  case' first =>
    have q1 : ((min (group.length : Int) 40).toNat) = min group.length 40 := by omega
    rcases Nat.lt_or_ge 40 group.length with a1 | a1
    · go_wp2_with fail
      go_meet
      simp only [Nat.min_eq_right (Nat.le_of_lt a1)]
    · go_wp2_with fail
      go_meet
      rw [List.take_of_length_le a1]
  subst hcut
  go_upto_region 4 with fail
  go_cut [] (fun wx => wx = ((w.alloc (.cells #[.int .i64 kind, .string (S topic), .int .i64 pn, .int .i64 n, .int .i64 off, .int .i64 bp, .int .i64 be, .int .i64 bq, .slice ra recs.length rc, .string (S group), .string (S member), .int .i64 gen, .bool robin, .slice ta tops.length tc] 29)).alloc (.cells #[.int .i64 0, .string (S []), .int .i64 0, .int .i64 0, .int .i64 0, .int .i64 0, .int .i64 0, .int .i64 0, .slice none 0 0, .string (S []), .string (S []), .int .i64 0, .bool false, .slice none 0 0] 29)).alloc (.cells #[.int .i64 kind, .string (S (topic.take 40)), .int .i64 pn, .int .i64 n, .int .i64 off, .int .i64 bp, .int .i64 be, .int .i64 bq, .slice ra recs.length rc, .string (S (group.take 40)), .string (S (member.take 40)), .int .i64 gen, .bool robin, .slice ta tops.length tc] 29))
  case' first =>
    have q1 : ((min (member.length : Int) 40).toNat) = min member.length 40 := by omega
    rcases Nat.lt_or_ge 40 member.length with a1 | a1
    · go_wp2_with fail
      go_meet
      simp only [Nat.min_eq_right (Nat.le_of_lt a1)]
    · go_wp2_with fail
      go_meet
      rw [List.take_of_length_le a1]
  subst hcut
  have hB0 : Below w.heap.size w (((w.alloc (.cells #[.int .i64 kind, .string (S topic), .int .i64 pn, .int .i64 n, .int .i64 off, .int .i64 bp, .int .i64 be, .int .i64 bq, .slice ra recs.length rc, .string (S group), .string (S member), .int .i64 gen, .bool robin, .slice ta tops.length tc] 29)).alloc (.cells #[.int .i64 0, .string (S []), .int .i64 0, .int .i64 0, .int .i64 0, .int .i64 0, .int .i64 0, .int .i64 0, .slice none 0 0, .string (S []), .string (S []), .int .i64 0, .bool false, .slice none 0 0] 29)).alloc (.cells #[.int .i64 kind, .string (S (topic.take 40)), .int .i64 pn, .int .i64 n, .int .i64 off, .int .i64 bp, .int .i64 be, .int .i64 bq, .slice ra recs.length rc, .string (S (group.take 40)), .string (S (member.take 40)), .int .i64 gen, .bool robin, .slice ta tops.length tc] 29)) := below_all (below_all (below_all (Below.refl _ _)))
  have X0 : Blk (((w.alloc (.cells #[.int .i64 kind, .string (S topic), .int .i64 pn, .int .i64 n, .int .i64 off, .int .i64 bp, .int .i64 be, .int .i64 bq, .slice ra recs.length rc, .string (S group), .string (S member), .int .i64 gen, .bool robin, .slice ta tops.length tc] 29)).alloc (.cells #[.int .i64 0, .string (S []), .int .i64 0, .int .i64 0, .int .i64 0, .int .i64 0, .int .i64 0, .int .i64 0, .slice none 0 0, .string (S []), .string (S []), .int .i64 0, .bool false, .slice none 0 0] 29)).alloc (.cells #[.int .i64 kind, .string (S (topic.take 40)), .int .i64 pn, .int .i64 n, .int .i64 off, .int .i64 bp, .int .i64 be, .int .i64 bq, .slice ra recs.length rc, .string (S (group.take 40)), .string (S (member.take 40)), .int .i64 gen, .bool robin, .slice ta tops.length tc] 29)) w.heap.size #[.int .i64 kind, .string (S topic), .int .i64 pn, .int .i64 n, .int .i64 off, .int .i64 bp, .int .i64 be, .int .i64 bq, .slice ra recs.length rc, .string (S group), .string (S member), .int .i64 gen, .bool robin, .slice ta tops.length tc] 29 := ((Blk.new w _ _).alloc _).alloc _
  have Y0 : Blk (((w.alloc (.cells #[.int .i64 kind, .string (S topic), .int .i64 pn, .int .i64 n, .int .i64 off, .int .i64 bp, .int .i64 be, .int .i64 bq, .slice ra recs.length rc, .string (S group), .string (S member), .int .i64 gen, .bool robin, .slice ta tops.length tc] 29)).alloc (.cells #[.int .i64 0, .string (S []), .int .i64 0, .int .i64 0, .int .i64 0, .int .i64 0, .int .i64 0, .int .i64 0, .slice none 0 0, .string (S []), .string (S []), .int .i64 0, .bool false, .slice none 0 0] 29)).alloc (.cells #[.int .i64 kind, .string (S (topic.take 40)), .int .i64 pn, .int .i64 n, .int .i64 off, .int .i64 bp, .int .i64 be, .int .i64 bq, .slice ra recs.length rc, .string (S (group.take 40)), .string (S (member.take 40)), .int .i64 gen, .bool robin, .slice ta tops.length tc] 29)) (w.heap.size + 1) #[.int .i64 0, .string (S []), .int .i64 0, .int .i64 0, .int .i64 0, .int .i64 0, .int .i64 0, .int .i64 0, .slice none 0 0, .string (S []), .string (S []), .int .i64 0, .bool false, .slice none 0 0] 29 := by
    have h := Blk.new (w.alloc (.cells #[.int .i64 kind, .string (S topic), .int .i64 pn, .int .i64 n, .int .i64 off, .int .i64 bp, .int .i64 be, .int .i64 bq, .slice ra recs.length rc, .string (S group), .string (S member), .int .i64 gen, .bool robin, .slice ta tops.length tc] 29)) #[.int .i64 0, .string (S []), .int .i64 0, .int .i64 0, .int .i64 0, .int .i64 0, .int .i64 0, .int .i64 0, .slice none 0 0, .string (S []), .string (S []), .int .i64 0, .bool false, .slice none 0 0] 29
    rw [World.size_alloc] at h
    exact h.alloc _
  have P0 : Blk (((w.alloc (.cells #[.int .i64 kind, .string (S topic), .int .i64 pn, .int .i64 n, .int .i64 off, .int .i64 bp, .int .i64 be, .int .i64 bq, .slice ra recs.length rc, .string (S group), .string (S member), .int .i64 gen, .bool robin, .slice ta tops.length tc] 29)).alloc (.cells #[.int .i64 0, .string (S []), .int .i64 0, .int .i64 0, .int .i64 0, .int .i64 0, .int .i64 0, .int .i64 0, .slice none 0 0, .string (S []), .string (S []), .int .i64 0, .bool false, .slice none 0 0] 29)).alloc (.cells #[.int .i64 kind, .string (S (topic.take 40)), .int .i64 pn, .int .i64 n, .int .i64 off, .int .i64 bp, .int .i64 be, .int .i64 bq, .slice ra recs.length rc, .string (S (group.take 40)), .string (S (member.take 40)), .int .i64 gen, .bool robin, .slice ta tops.length tc] 29)) (w.heap.size + 1 + 1) #[.int .i64 kind, .string (S (topic.take 40)), .int .i64 pn, .int .i64 n, .int .i64 off, .int .i64 bp, .int .i64 be, .int .i64 bq, .slice ra recs.length rc, .string (S (group.take 40)), .string (S (member.take 40)), .int .i64 gen, .bool robin, .slice ta tops.length tc] 29 := by
    have h := Blk.new ((w.alloc (.cells #[.int .i64 kind, .string (S topic), .int .i64 pn, .int .i64 n, .int .i64 off, .int .i64 bp, .int .i64 be, .int .i64 bq, .slice ra recs.length rc, .string (S group), .string (S member), .int .i64 gen, .bool robin, .slice ta tops.length tc] 29)).alloc (.cells #[.int .i64 0, .string (S []), .int .i64 0, .int .i64 0, .int .i64 0, .int .i64 0, .int .i64 0, .int .i64 0, .slice none 0 0, .string (S []), .string (S []), .int .i64 0, .bool false, .slice none 0 0] 29)) #[.int .i64 kind, .string (S (topic.take 40)), .int .i64 pn, .int .i64 n, .int .i64 off, .int .i64 bp, .int .i64 be, .int .i64 bq, .slice ra recs.length rc, .string (S (group.take 40)), .string (S (member.take 40)), .int .i64 gen, .bool robin, .slice ta tops.length tc] 29
    rw [World.size_alloc, World.size_alloc] at h
    exact h
  have CB := Lib.hid (cB.out _ hB0)
  generalize (((w.alloc (.cells #[.int .i64 kind, .string (S topic), .int .i64 pn, .int .i64 n, .int .i64 off, .int .i64 bp, .int .i64 be, .int .i64 bq, .slice ra recs.length rc, .string (S group), .string (S member), .int .i64 gen, .bool robin, .slice ta tops.length tc] 29)).alloc (.cells #[.int .i64 0, .string (S []), .int .i64 0, .int .i64 0, .int .i64 0, .int .i64 0, .int .i64 0, .int .i64 0, .slice none 0 0, .string (S []), .string (S []), .int .i64 0, .bool false, .slice none 0 0] 29)).alloc (.cells #[.int .i64 kind, .string (S (topic.take 40)), .int .i64 pn, .int .i64 n, .int .i64 off, .int .i64 bp, .int .i64 be, .int .i64 bq, .slice ra recs.length rc, .string (S (group.take 40)), .string (S (member.take 40)), .int .i64 gen, .bool robin, .slice ta tops.length tc] 29)) = w0 at hB0 X0 Y0 P0 CB ⊢
  obtain ⟨HX0, kx0, x0, x1, x2, x3, x4, x5, x6, x7, x8, x9, x10, x11, x12, x13⟩ := arr_cells X0
  clear cB
  go_wp2_with fail
  refine CB.out.use ?_
  intro v w1 o1 b1
  obtain ⟨va, vc, hv⟩ := ownForm o1
  subst hv
  have P1 := P0.below b1
  obtain ⟨HP1, kp1, y0, y1, y2, y3, y4, y5, y6, y7, y8, y9, y10, y11, y12, y13⟩ := arr_cells P1
  have fp1 : ∀ i, w1.frozen? ⟨w.heap.size + 1 + 1, i, none⟩ = false := fun i => Blk.frozen P1 i
  have SK := set5at (.int .i64 bp) (.int .i64 be) (.int .i64 bq) (.slice va (cutRs recs).length vc) (.slice none 0 0) P1
  have ho1 : ∀ b, (Value.slice va (cutRs recs).length vc).ownBlock = some b → b ∉ [w.heap.size + 1 + 1] := fun b hb hm => own_ne o1 P1 (by decide) (by rw [hb, List.mem_singleton.1 hm])
  have hI0 : KInv w (((((w1.setCell ⟨w.heap.size + 1 + 1, 5, none⟩ (.int .i64 bp)).setCell ⟨w.heap.size + 1 + 1, 6, none⟩ (.int .i64 be)).setCell ⟨w.heap.size + 1 + 1, 7, none⟩ (.int .i64 bq)).setCell ⟨w.heap.size + 1 + 1, 8, none⟩ (.slice va (cutRs recs).length vc)).setCell ⟨w.heap.size + 1 + 1, 13, none⟩ (.slice none 0 0)) #[.int .i64 kind, .string (S topic), .int .i64 pn, .int .i64 n, .int .i64 off, .int .i64 bp, .int .i64 be, .int .i64 bq, .slice ra recs.length rc, .string (S group), .string (S member), .int .i64 gen, .bool robin, .slice ta tops.length tc] (fun x : Value => #[.int .i64 kind, .string (S (topic.take 40)), .int .i64 pn, .int .i64 n, .int .i64 off, .int .i64 bp, .int .i64 be, .int .i64 bq, .slice va (cutRs recs).length vc, .string (S (group.take 40)), .string (S (member.take 40)), .int .i64 gen, .bool robin, x]) (.slice va (cutRs recs).length vc) (cutRs recs) (.slice none 0 0) [] :=
    ⟨(HX0.out.below b1).keptR SK.2 (by simp; try omega), (Y0.below b1).keptR SK.2 (by simp; try omega), SK.1, World.ownsRow_nil _ _ _ _, Go.Joins.ownsRow_le (own_keptR o1 SK.2 ho1) hB0.size, SK.2.toBelow (hB0.trans (b1.mono hB0.size)) (by simp; try omega)⟩
  have HI0 := Lib.hid hI0
  have hks := (SK.2.size)
  clear hI0 SK ho1 P1 HP1 o1 b1 hB0 X0 Y0 P0 CB HX0
  go_wp2_with fail
  obtain ⟨j0, hj, hy0, hy1, hy2⟩ := info_parts tstrInfo
  go_loopw [4] (fun (v4 : Value) (W : World) => ∃ (i : Nat) (ts : List (List UInt8)) (tv' : Value), v4 = .int .i64 (i : Int) ∧ i ≤ tops.length ∧ i ≤ 12 ∧ Hid (ts = (tops.take i).map (·.take 40)) ∧ KInv w W #[.int .i64 kind, .string (S topic), .int .i64 pn, .int .i64 n, .int .i64 off, .int .i64 bp, .int .i64 be, .int .i64 bq, .slice ra recs.length rc, .string (S group), .string (S member), .int .i64 gen, .bool robin, .slice ta tops.length tc] (fun x : Value => #[.int .i64 kind, .string (S (topic.take 40)), .int .i64 pn, .int .i64 n, .int .i64 off, .int .i64 bp, .int .i64 be, .int .i64 bq, .slice va (cutRs recs).length vc, .string (S (group.take 40)), .string (S (member.take 40)), .int .i64 gen, .bool robin, x]) (.slice va (cutRs recs).length vc) (cutRs recs) tv' ts) (fun (v4 : Value) (W : World) => (12 - intOf v4).toNat)
  case atStart => exact ⟨0, [], _, rfl, by omega, by omega, Lib.hid (by simp), HI0.out⟩
  case round =>
    clear HI0
    obtain ⟨i, ts, tv', rfl, hi1, hi2, hT, hI⟩ := hrel
    obtain ⟨HX, kx, x0, x1, x2, x3, x4, x5, x6, x7, x8, x9, x10, x11, x12, x13⟩ := arr_cells hI.bx
    have HI := Lib.hid hI
    have hbs := hI.below.size
    have hpl := hI.pt.lt
    have htl : ts.length = i := by rw [hT.out, List.length_map, List.length_take]; omega
    obtain rfl := htl
    by_cases h1 : ts.length < tops.length
    · by_cases h2 : ts.length < 12
      · have t1 : decide ((ts.length : Int) < (tops.length : Int)) = true := decide_eq_true (by omega)
        have t2 : decide ((ts.length : Int) < 12) = true := decide_eq_true (by omega)
        have t3 : ((ts.length : Int) < 12) = True := eq_true (by omega)
        have t4 : ((ts.length : Int) < (tops.length : Int)) = True := eq_true (by omega)
        have t5 : (ts.length < 12) = True := eq_true h2
        have t6 : (ts.length < tops.length) = True := eq_true h1
        obtain ⟨b, o, hae, hbw, hcw⟩ : ∃ b o, ta = some ⟨b, o, none⟩ ∧ b < w.heap.size ∧ w.cell? ⟨b, o + ts.length, none⟩ = some (.string (S tops[ts.length])) := by
          rcases HT.out w (Below.refl _ _) with ⟨h0, _⟩ | ⟨b, o, cap, he, _, hl, hc⟩
          · rw [h0] at h1; simp at h1
          · simp only [Value.slice.injEq] at he
            exact ⟨b, o, he.1, hl, hc _ h1⟩
        have hcb := Lib.hid (fun V (hV : Below w.heap.size w V) => (World.cell?_of_block (hV.block b hbw)).trans hcw)
        have hbl : b < wr.heap.size := Nat.lt_of_lt_of_le hbw hbs
        have hc := hcb.out _ hI.below
        clear hcw
        have hsn : ts ++ [tops[ts.length].take 40] = (tops.take (ts.length + 1)).map (·.take 40) := by
          rw [List.take_succ_eq_append_getElem h1, List.map_append, ← hT.out]; rfl
        have HSN := Lib.hid hsn
        have hsl := HTB.out _ (List.getElem_mem h1)
        unfold maxLen at hsl
        generalize tops[ts.length] = sx at *
        subst hae
        clear hsn hT
        obtain ⟨xa, xc, hxv⟩ := ownForm hI.own
        subst hxv
        have p13 := hI.pt.cell 13
        simp only [List.getElem?_toArray, List.getElem?_cons_succ, List.getElem?_cons_zero] at p13
        clear hI
        have i1 : (0 : Int) ≤ (ts.length : Int) := by omega
        have i2 : (ts.length : Int) < (tops.length : Int) := by omega
        have q1 : ((min (sx.length : Int) 40).toNat) = min sx.length 40 := by omega
        have q2 : ((0 : Int) ≤ min (sx.length : Int) 40) = True := eq_true (by omega)
        have q3 : (min (sx.length : Int) 40 ≤ (sx.length : Int)) = True := eq_true (by omega)
        rcases Nat.lt_or_ge 40 sx.length with a1 | a1
        · have hmin : min sx.length 40 = 40 := by omega
          have HI3 := Lib.hid (HI.out.bel' (V := wr.drew.alloc (.cells #[.string (S (sx.take 40))] 9)) (below_all ((Below.refl _ _).drew)))
          have P3 := Lib.hid HI3.out.own
          have x13' := HI3.out.bx.cell 13
          simp only [List.getElem?_toArray, List.getElem?_cons_succ, List.getElem?_cons_zero] at x13'
          have hc8 : (wr.drew.alloc (.cells #[.string (S (sx.take 40))] 9)).cell? ⟨b, o + ts.length, none⟩ = some (.string (S sx)) := (World.cell?_of_block (heap_alloc_old wr.drew _ hbl)).trans hc
          go_upto_region 10 with fail
          refine wp_region_held_drew (S := (fun w' => w'.cell? ⟨w.heap.size, 13, none⟩ = some (.slice (some ⟨b, o, none⟩) tops.length tc) ∧ w'.cell? ⟨b, o + ts.length, none⟩ = some (.string (S sx)))) (by kernel_rfl) ⟨x13, hc⟩ (fun hHeld => ?_)
          refine wpAnyH_take (i := 0) (v := ?_) rfl (by kernel_rfl) (by kernel_rfl) (by kernel_rfl) (fun _ _ _ h => h) (Or.inl ⟨by rfl, ?_⟩) hHeld ?_
          rotate_left
          · (intro w hSw; (try dsimp only at hSw); obtain ⟨hs1, hs2⟩ := hSw; go_simp; try with_reducible rfl)
          try simp only [List.getElem_toArray, List.getElem_cons_zero, List.getElem_cons_succ, Act.put, List.setIfInBounds_toArray, List.set_cons_zero, List.set_cons_succ]
          refine wpAnyH_take (i := 2) (v := ?_) rfl (by kernel_rfl) (by kernel_rfl) (by kernel_rfl) (fun _ _ _ h => h) (Or.inl ⟨by rfl, ?_⟩) hHeld ?_
          rotate_left
          · (intro w hSw; (try dsimp only at hSw); obtain ⟨hs1, hs2⟩ := hSw; go_simp; try with_reducible rfl)
          try simp only [List.getElem_toArray, List.getElem_cons_zero, List.getElem_cons_succ, Act.put, List.setIfInBounds_toArray, List.set_cons_zero, List.set_cons_succ]
          refine wpAnyH_take (i := 3) (v := ?_) rfl (by kernel_rfl) (by kernel_rfl) (by kernel_rfl) (fun _ _ _ h => h) (Or.inl ⟨by rfl, ?_⟩) hHeld ?_
          rotate_left
          · (intro w hSw; (try dsimp only at hSw); obtain ⟨hs1, hs2⟩ := hSw; go_simp; try with_reducible rfl)
          try simp only [List.getElem_toArray, List.getElem_cons_zero, List.getElem_cons_succ, Act.put, List.setIfInBounds_toArray, List.set_cons_zero, List.set_cons_succ]
          refine wpAnyH_take (i := 4) (v := ?_) rfl (by kernel_rfl) (by kernel_rfl) (by kernel_rfl) (fun _ _ _ h => h) (Or.inl ⟨by rfl, ?_⟩) hHeld ?_
          rotate_left
          · (intro w hSw; (try dsimp only at hSw); obtain ⟨hs1, hs2⟩ := hSw; go_simp; try with_reducible rfl)
          try simp only [List.getElem_toArray, List.getElem_cons_zero, List.getElem_cons_succ, Act.put, List.setIfInBounds_toArray, List.set_cons_zero, List.set_cons_succ]
          refine wpAnyH_take (i := 5) (v := ?_) rfl (by kernel_rfl) (by kernel_rfl) (by kernel_rfl) (fun _ _ _ h => h) (Or.inl ⟨by rfl, ?_⟩) hHeld ?_
          rotate_left
          · (intro w hSw; (try dsimp only at hSw); obtain ⟨hs1, hs2⟩ := hSw; go_simp; try with_reducible rfl)
          try simp only [List.getElem_toArray, List.getElem_cons_zero, List.getElem_cons_succ, Act.put, List.setIfInBounds_toArray, List.set_cons_zero, List.set_cons_succ]
          refine wpAnyH_take (i := 6) (v := ?_) rfl (by kernel_rfl) (by kernel_rfl) (by kernel_rfl) (fun _ _ _ h => h) (Or.inl ⟨by rfl, ?_⟩) hHeld ?_
          rotate_left
          · (intro w hSw; (try dsimp only at hSw); obtain ⟨hs1, hs2⟩ := hSw; go_simp; try with_reducible rfl)
          try simp only [List.getElem_toArray, List.getElem_cons_zero, List.getElem_cons_succ, Act.put, List.setIfInBounds_toArray, List.set_cons_zero, List.set_cons_succ]
          refine wpAnyH_take (i := 7) (v := ?_) rfl (by kernel_rfl) (by kernel_rfl) (by kernel_rfl) (fun _ _ _ h => h) (Or.inl ⟨by rfl, ?_⟩) hHeld ?_
          rotate_left
          · (intro w hSw; (try dsimp only at hSw); obtain ⟨hs1, hs2⟩ := hSw; go_simp; try with_reducible rfl)
          try simp only [List.getElem_toArray, List.getElem_cons_zero, List.getElem_cons_succ, Act.put, List.setIfInBounds_toArray, List.set_cons_zero, List.set_cons_succ]
          refine wpAnyH_take (i := 8) (v := ?_) rfl (by kernel_rfl) (by kernel_rfl) (by kernel_rfl) (fun _ _ _ h => h) (Or.inl ⟨by rfl, ?_⟩) hHeld ?_
          rotate_left
          · (intro w hSw; (try dsimp only at hSw); obtain ⟨hs1, hs2⟩ := hSw; go_simp; try with_reducible rfl)
          try simp only [List.getElem_toArray, List.getElem_cons_zero, List.getElem_cons_succ, Act.put, List.setIfInBounds_toArray, List.set_cons_zero, List.set_cons_succ]
          refine wpAnyH_take (i := 9) (v := ?_) rfl (by kernel_rfl) (by kernel_rfl) (by kernel_rfl) (fun _ _ _ h => h) (Or.inl ⟨by rfl, ?_⟩) hHeld ?_
          rotate_left
          · (intro w hSw; (try dsimp only at hSw); obtain ⟨hs1, hs2⟩ := hSw; go_simp; try with_reducible rfl)
          try simp only [List.getElem_toArray, List.getElem_cons_zero, List.getElem_cons_succ, Act.put, List.setIfInBounds_toArray, List.set_cons_zero, List.set_cons_succ]
          refine wpAnyH_take (i := 10) (v := ?_) rfl (by kernel_rfl) (by kernel_rfl) (by kernel_rfl) (fun _ _ _ h => h) (Or.inl ⟨by rfl, ?_⟩) hHeld ?_
          rotate_left
          · (intro w hSw; (try dsimp only at hSw); obtain ⟨hs1, hs2⟩ := hSw; go_simp; try with_reducible rfl)
          try simp only [List.getElem_toArray, List.getElem_cons_zero, List.getElem_cons_succ, Act.put, List.setIfInBounds_toArray, List.set_cons_zero, List.set_cons_succ]
          refine wpAnyH_take (i := 11) (v := ?_) rfl (by kernel_rfl) (by kernel_rfl) (by kernel_rfl) (fun _ _ _ h => h) (Or.inl ⟨by rfl, ?_⟩) hHeld ?_
          rotate_left
          · (intro w hSw; (try dsimp only at hSw); obtain ⟨hs1, hs2⟩ := hSw; go_simp; try with_reducible rfl)
          try simp only [List.getElem_toArray, List.getElem_cons_zero, List.getElem_cons_succ, Act.put, List.setIfInBounds_toArray, List.set_cons_zero, List.set_cons_succ]
          refine wpAnyH_take (i := 12) (v := ?_) rfl (by kernel_rfl) (by kernel_rfl) (by kernel_rfl) (fun _ _ _ h => h) (Or.inl ⟨by rfl, ?_⟩) hHeld ?_
          rotate_left
          · (intro w hSw; (try dsimp only at hSw); obtain ⟨hs1, hs2⟩ := hSw; go_simp; try with_reducible rfl)
          try simp only [List.getElem_toArray, List.getElem_cons_zero, List.getElem_cons_succ, Act.put, List.setIfInBounds_toArray, List.set_cons_zero, List.set_cons_succ]
          refine wpAnyH_take (i := 13) (v := ?_) rfl (by kernel_rfl) (by kernel_rfl) (by kernel_rfl) (fun _ _ _ h => h) (Or.inl ⟨by rfl, ?_⟩) hHeld ?_
          rotate_left
          · (intro w hSw; (try dsimp only at hSw); obtain ⟨hs1, hs2⟩ := hSw; go_simp; try with_reducible rfl)
          try simp only [List.getElem_toArray, List.getElem_cons_zero, List.getElem_cons_succ, Act.put, List.setIfInBounds_toArray, List.set_cons_zero, List.set_cons_succ]
          refine wpAnyH_take (i := 14) (v := ?_) rfl (by kernel_rfl) (by kernel_rfl) (by kernel_rfl) (fun _ _ _ h => h) (Or.inl ⟨by rfl, ?_⟩) hHeld ?_
          rotate_left
          · (intro w hSw; (try dsimp only at hSw); obtain ⟨hs1, hs2⟩ := hSw; go_simp; try with_reducible rfl)
          try simp only [List.getElem_toArray, List.getElem_cons_zero, List.getElem_cons_succ, Act.put, List.setIfInBounds_toArray, List.set_cons_zero, List.set_cons_succ]
          refine wpAnyH_ready (rs := [1, 15]) (by kernel_rfl) (by simp) ?_
          refine (AllReadyH.cons rfl (fun K hK => ?_) (AllReadyH.cons rfl (fun K hK => ?_) AllReadyH.nil))
          · go_simp
            refine hK.out _ _ ⟨x13, hc⟩ (fun hHeld => ?_)
            clear hK K
            try simp only [List.getElem_toArray, List.getElem_cons_zero, List.getElem_cons_succ, Act.put, List.setIfInBounds_toArray, List.set_cons_zero, List.set_cons_succ]
            refine wpAnyH_ready (rs := [15]) (by kernel_rfl) (by simp) ?_
            refine (AllReadyH.cons rfl (fun K hK => ?_) AllReadyH.nil)
            go_simp
            refine hK.out _ _ ⟨x13', hc8⟩ (fun hHeld => ?_)
            clear hK K
            try simp only [List.getElem_toArray, List.getElem_cons_zero, List.getElem_cons_succ, Act.put, List.setIfInBounds_toArray, List.set_cons_zero, List.set_cons_succ]
            refine wpAnyH_ready (rs := [16]) (by kernel_rfl) (by simp) ?_
            refine (AllReadyH.cons rfl (fun K hK => ?_) AllReadyH.nil)
            refine step_append_lies _ (by rfl) _ _ _ (by rfl) w.heap.size 9 j0 _ 1 16 Try.underlying27 hj hy0 hy1 hy2 rfl (by decide) (.slice xa ts.length xc) ts.length (ts.map strV) (by simp [Act.eval, Act.put]) P3.out ⟨wr.heap.size, 0, none⟩ 1 1 [.string (S (sx.take 40))] (by simp [Act.eval, Act.put]) rfl (news_strV (sx.take 40) (by first | rfl | simp)) (by simp [Value.oneCell']) (by omega) (by unfold maxLen; omega) (by omega) (by simp; omega) (wr.heap.size + 1) (by simp) ?_
            intro g5 cap5 w5 o5 gr5 hat5 hlt5
            obtain ⟨m1, m2, m3⟩ := HI3.out.mid gr5
            have n1 := m2.cell 13
            simp only [List.getElem?_toArray, List.getElem?_cons_succ, List.getElem?_cons_zero] at n1
            have n2 := hcb.out _ m1
            have kq5 := m3.lt
            have y5 := m3.cell 13
            simp only [List.getElem?_toArray, List.getElem?_cons_succ, List.getElem?_cons_zero] at y5
            have ff5 : ∀ i, w5.frozen? ⟨w.heap.size + 1 + 1, i, none⟩ = false := fun i => Blk.frozen m3 i
            have n3 : (w5.setCell ⟨w.heap.size + 1 + 1, 13, none⟩ (.slice (some ⟨g5, 0, none⟩) (ts.length + 1) cap5)).cell? ⟨w.heap.size, 13, none⟩ = _ := (World.cell?_setCell_far _ _ _ _ (by simp; try omega)).trans n1
            have n4 : (w5.setCell ⟨w.heap.size + 1 + 1, 13, none⟩ (.slice (some ⟨g5, 0, none⟩) (ts.length + 1) cap5)).cell? ⟨b, o + ts.length, none⟩ = _ := (World.cell?_setCell_far _ _ _ _ (by simp; try omega)).trans n2
            have O5 := Lib.hid o5
            have GR5 := Lib.hid gr5
            clear m1 m2 m3 o5 gr5 hat5 hlt5
            refine hK.out _ _ ⟨n1, n2⟩ (fun hHeld => ?_)
            clear hK K
            try simp only [List.getElem_toArray, List.getElem_cons_zero, List.getElem_cons_succ, Act.put, List.setIfInBounds_toArray, List.set_cons_zero, List.set_cons_succ]
            refine wpAnyH_take (i := 17) (v := ?_) rfl (by kernel_rfl) (by kernel_rfl) (by kernel_rfl) (fun _ _ _ h => h) (Or.inl ⟨by rfl, ?_⟩) hHeld ?_
            rotate_left
            · (intro w hSw; (try dsimp only at hSw); obtain ⟨hs1, hs2⟩ := hSw; go_simp; try with_reducible rfl)
            try simp only [List.getElem_toArray, List.getElem_cons_zero, List.getElem_cons_succ, Act.put, List.setIfInBounds_toArray, List.set_cons_zero, List.set_cons_succ]
            refine wpAnyH_ready (rs := [18]) (by kernel_rfl) (by simp) ?_
            refine (AllReadyH.cons rfl (fun K hK => ?_) AllReadyH.nil)
            go_simp
            refine hK.out _ _ ⟨n3, n4⟩ (fun hHeld => ?_)
            clear hK K
            try simp only [List.getElem_toArray, List.getElem_cons_zero, List.getElem_cons_succ, Act.put, List.setIfInBounds_toArray, List.set_cons_zero, List.set_cons_succ]
            refine wpAnyH_done (by kernel_rfl) ?_ _
            go_wp2_with fail
            go_roundw
            case rel =>
              refine ⟨ts.length + 1, ts ++ [(sx.take 40)], .slice (some ⟨g5, 0, none⟩) (ts.length + 1) cap5, by go_num, by omega, by omega, HSN, ?_⟩
              exact HI3.out.app GR5.out (by simpa [strV] using O5.out) rfl
            case measure => simp [intOf]; omega
          · go_simp
            refine hK.out _ _ ⟨x13', hc8⟩ (fun hHeld => ?_)
            clear hK K
            try simp only [List.getElem_toArray, List.getElem_cons_zero, List.getElem_cons_succ, Act.put, List.setIfInBounds_toArray, List.set_cons_zero, List.set_cons_succ]
            refine wpAnyH_ready (rs := [1]) (by kernel_rfl) (by simp) ?_
            refine (AllReadyH.cons rfl (fun K hK => ?_) AllReadyH.nil)
            go_simp
            refine hK.out _ _ ⟨x13', hc8⟩ (fun hHeld => ?_)
            clear hK K
            try simp only [List.getElem_toArray, List.getElem_cons_zero, List.getElem_cons_succ, Act.put, List.setIfInBounds_toArray, List.set_cons_zero, List.set_cons_succ]
            refine wpAnyH_ready (rs := [16]) (by kernel_rfl) (by simp) ?_
            refine (AllReadyH.cons rfl (fun K hK => ?_) AllReadyH.nil)
            refine step_append_lies _ (by rfl) _ _ _ (by rfl) w.heap.size 9 j0 _ 1 16 Try.underlying27 hj hy0 hy1 hy2 rfl (by decide) (.slice xa ts.length xc) ts.length (ts.map strV) (by simp [Act.eval, Act.put]) P3.out ⟨wr.heap.size, 0, none⟩ 1 1 [.string (S (sx.take 40))] (by simp [Act.eval, Act.put]) rfl (news_strV (sx.take 40) (by first | rfl | simp)) (by simp [Value.oneCell']) (by omega) (by unfold maxLen; omega) (by omega) (by simp; omega) (wr.heap.size + 1) (by simp) ?_
            intro g5 cap5 w5 o5 gr5 hat5 hlt5
            obtain ⟨m1, m2, m3⟩ := HI3.out.mid gr5
            have n1 := m2.cell 13
            simp only [List.getElem?_toArray, List.getElem?_cons_succ, List.getElem?_cons_zero] at n1
            have n2 := hcb.out _ m1
            have kq5 := m3.lt
            have y5 := m3.cell 13
            simp only [List.getElem?_toArray, List.getElem?_cons_succ, List.getElem?_cons_zero] at y5
            have ff5 : ∀ i, w5.frozen? ⟨w.heap.size + 1 + 1, i, none⟩ = false := fun i => Blk.frozen m3 i
            have n3 : (w5.setCell ⟨w.heap.size + 1 + 1, 13, none⟩ (.slice (some ⟨g5, 0, none⟩) (ts.length + 1) cap5)).cell? ⟨w.heap.size, 13, none⟩ = _ := (World.cell?_setCell_far _ _ _ _ (by simp; try omega)).trans n1
            have n4 : (w5.setCell ⟨w.heap.size + 1 + 1, 13, none⟩ (.slice (some ⟨g5, 0, none⟩) (ts.length + 1) cap5)).cell? ⟨b, o + ts.length, none⟩ = _ := (World.cell?_setCell_far _ _ _ _ (by simp; try omega)).trans n2
            have O5 := Lib.hid o5
            have GR5 := Lib.hid gr5
            clear m1 m2 m3 o5 gr5 hat5 hlt5
            refine hK.out _ _ ⟨n1, n2⟩ (fun hHeld => ?_)
            clear hK K
            try simp only [List.getElem_toArray, List.getElem_cons_zero, List.getElem_cons_succ, Act.put, List.setIfInBounds_toArray, List.set_cons_zero, List.set_cons_succ]
            refine wpAnyH_take (i := 17) (v := ?_) rfl (by kernel_rfl) (by kernel_rfl) (by kernel_rfl) (fun _ _ _ h => h) (Or.inl ⟨by rfl, ?_⟩) hHeld ?_
            rotate_left
            · (intro w hSw; (try dsimp only at hSw); obtain ⟨hs1, hs2⟩ := hSw; go_simp; try with_reducible rfl)
            try simp only [List.getElem_toArray, List.getElem_cons_zero, List.getElem_cons_succ, Act.put, List.setIfInBounds_toArray, List.set_cons_zero, List.set_cons_succ]
            refine wpAnyH_ready (rs := [18]) (by kernel_rfl) (by simp) ?_
            refine (AllReadyH.cons rfl (fun K hK => ?_) AllReadyH.nil)
            go_simp
            refine hK.out _ _ ⟨n3, n4⟩ (fun hHeld => ?_)
            clear hK K
            try simp only [List.getElem_toArray, List.getElem_cons_zero, List.getElem_cons_succ, Act.put, List.setIfInBounds_toArray, List.set_cons_zero, List.set_cons_succ]
            refine wpAnyH_done (by kernel_rfl) ?_ _
            go_wp2_with fail
            go_roundw
            case rel =>
              refine ⟨ts.length + 1, ts ++ [(sx.take 40)], .slice (some ⟨g5, 0, none⟩) (ts.length + 1) cap5, by go_num, by omega, by omega, HSN, ?_⟩
              exact HI3.out.app GR5.out (by simpa [strV] using O5.out) rfl
            case measure => simp [intOf]; omega
        · have hmin : min sx.length 40 = sx.length := by omega
          have HSN : Hid (ts ++ [sx] = (tops.take (ts.length + 1)).map (·.take 40)) := Lib.hid (by have h := HSN.out; rwa [List.take_of_length_le a1] at h)
          have HI3 := Lib.hid (HI.out.bel' (V := wr.drew.alloc (.cells #[.string (S sx)] 9)) (below_all ((Below.refl _ _).drew)))
          have P3 := Lib.hid HI3.out.own
          have x13' := HI3.out.bx.cell 13
          simp only [List.getElem?_toArray, List.getElem?_cons_succ, List.getElem?_cons_zero] at x13'
          have hc8 : (wr.drew.alloc (.cells #[.string (S sx)] 9)).cell? ⟨b, o + ts.length, none⟩ = some (.string (S sx)) := (World.cell?_of_block (heap_alloc_old wr.drew _ hbl)).trans hc
          go_upto_region 10 with fail
          refine wp_region_held_drew (S := (fun w' => w'.cell? ⟨w.heap.size, 13, none⟩ = some (.slice (some ⟨b, o, none⟩) tops.length tc) ∧ w'.cell? ⟨b, o + ts.length, none⟩ = some (.string (S sx)))) (by kernel_rfl) ⟨x13, hc⟩ (fun hHeld => ?_)
          refine wpAnyH_take (i := 0) (v := ?_) rfl (by kernel_rfl) (by kernel_rfl) (by kernel_rfl) (fun _ _ _ h => h) (Or.inl ⟨by rfl, ?_⟩) hHeld ?_
          rotate_left
          · (intro w hSw; (try dsimp only at hSw); obtain ⟨hs1, hs2⟩ := hSw; go_simp; try with_reducible rfl)
          try simp only [List.getElem_toArray, List.getElem_cons_zero, List.getElem_cons_succ, Act.put, List.setIfInBounds_toArray, List.set_cons_zero, List.set_cons_succ]
          refine wpAnyH_take (i := 2) (v := ?_) rfl (by kernel_rfl) (by kernel_rfl) (by kernel_rfl) (fun _ _ _ h => h) (Or.inl ⟨by rfl, ?_⟩) hHeld ?_
          rotate_left
          · (intro w hSw; (try dsimp only at hSw); obtain ⟨hs1, hs2⟩ := hSw; go_simp; try with_reducible rfl)
          try simp only [List.getElem_toArray, List.getElem_cons_zero, List.getElem_cons_succ, Act.put, List.setIfInBounds_toArray, List.set_cons_zero, List.set_cons_succ]
          refine wpAnyH_take (i := 3) (v := ?_) rfl (by kernel_rfl) (by kernel_rfl) (by kernel_rfl) (fun _ _ _ h => h) (Or.inl ⟨by rfl, ?_⟩) hHeld ?_
          rotate_left
          · (intro w hSw; (try dsimp only at hSw); obtain ⟨hs1, hs2⟩ := hSw; go_simp; try with_reducible rfl)
          try simp only [List.getElem_toArray, List.getElem_cons_zero, List.getElem_cons_succ, Act.put, List.setIfInBounds_toArray, List.set_cons_zero, List.set_cons_succ]
          refine wpAnyH_take (i := 4) (v := ?_) rfl (by kernel_rfl) (by kernel_rfl) (by kernel_rfl) (fun _ _ _ h => h) (Or.inl ⟨by rfl, ?_⟩) hHeld ?_
          rotate_left
          · (intro w hSw; (try dsimp only at hSw); obtain ⟨hs1, hs2⟩ := hSw; go_simp; try with_reducible rfl)
          try simp only [List.getElem_toArray, List.getElem_cons_zero, List.getElem_cons_succ, Act.put, List.setIfInBounds_toArray, List.set_cons_zero, List.set_cons_succ]
          refine wpAnyH_take (i := 5) (v := ?_) rfl (by kernel_rfl) (by kernel_rfl) (by kernel_rfl) (fun _ _ _ h => h) (Or.inl ⟨by rfl, ?_⟩) hHeld ?_
          rotate_left
          · (intro w hSw; (try dsimp only at hSw); obtain ⟨hs1, hs2⟩ := hSw; go_simp; try with_reducible rfl)
          try simp only [List.getElem_toArray, List.getElem_cons_zero, List.getElem_cons_succ, Act.put, List.setIfInBounds_toArray, List.set_cons_zero, List.set_cons_succ]
          refine wpAnyH_take (i := 6) (v := ?_) rfl (by kernel_rfl) (by kernel_rfl) (by kernel_rfl) (fun _ _ _ h => h) (Or.inl ⟨by rfl, ?_⟩) hHeld ?_
          rotate_left
          · (intro w hSw; (try dsimp only at hSw); obtain ⟨hs1, hs2⟩ := hSw; go_simp; try with_reducible rfl)
          try simp only [List.getElem_toArray, List.getElem_cons_zero, List.getElem_cons_succ, Act.put, List.setIfInBounds_toArray, List.set_cons_zero, List.set_cons_succ]
          refine wpAnyH_take (i := 7) (v := ?_) rfl (by kernel_rfl) (by kernel_rfl) (by kernel_rfl) (fun _ _ _ h => h) (Or.inl ⟨by rfl, ?_⟩) hHeld ?_
          rotate_left
          · (intro w hSw; (try dsimp only at hSw); obtain ⟨hs1, hs2⟩ := hSw; go_simp; try with_reducible rfl)
          try simp only [List.getElem_toArray, List.getElem_cons_zero, List.getElem_cons_succ, Act.put, List.setIfInBounds_toArray, List.set_cons_zero, List.set_cons_succ]
          refine wpAnyH_take (i := 8) (v := ?_) rfl (by kernel_rfl) (by kernel_rfl) (by kernel_rfl) (fun _ _ _ h => h) (Or.inl ⟨by rfl, ?_⟩) hHeld ?_
          rotate_left
          · (intro w hSw; (try dsimp only at hSw); obtain ⟨hs1, hs2⟩ := hSw; go_simp; try with_reducible rfl)
          try simp only [List.getElem_toArray, List.getElem_cons_zero, List.getElem_cons_succ, Act.put, List.setIfInBounds_toArray, List.set_cons_zero, List.set_cons_succ]
          refine wpAnyH_take (i := 9) (v := ?_) rfl (by kernel_rfl) (by kernel_rfl) (by kernel_rfl) (fun _ _ _ h => h) (Or.inl ⟨by rfl, ?_⟩) hHeld ?_
          rotate_left
          · (intro w hSw; (try dsimp only at hSw); obtain ⟨hs1, hs2⟩ := hSw; go_simp; try with_reducible rfl)
          try simp only [List.getElem_toArray, List.getElem_cons_zero, List.getElem_cons_succ, Act.put, List.setIfInBounds_toArray, List.set_cons_zero, List.set_cons_succ]
          refine wpAnyH_take (i := 10) (v := ?_) rfl (by kernel_rfl) (by kernel_rfl) (by kernel_rfl) (fun _ _ _ h => h) (Or.inl ⟨by rfl, ?_⟩) hHeld ?_
          rotate_left
          · (intro w hSw; (try dsimp only at hSw); obtain ⟨hs1, hs2⟩ := hSw; go_simp; try with_reducible rfl)
          try simp only [List.getElem_toArray, List.getElem_cons_zero, List.getElem_cons_succ, Act.put, List.setIfInBounds_toArray, List.set_cons_zero, List.set_cons_succ]
          refine wpAnyH_take (i := 11) (v := ?_) rfl (by kernel_rfl) (by kernel_rfl) (by kernel_rfl) (fun _ _ _ h => h) (Or.inl ⟨by rfl, ?_⟩) hHeld ?_
          rotate_left
          · (intro w hSw; (try dsimp only at hSw); obtain ⟨hs1, hs2⟩ := hSw; go_simp; try with_reducible rfl)
          try simp only [List.getElem_toArray, List.getElem_cons_zero, List.getElem_cons_succ, Act.put, List.setIfInBounds_toArray, List.set_cons_zero, List.set_cons_succ]
          refine wpAnyH_take (i := 12) (v := ?_) rfl (by kernel_rfl) (by kernel_rfl) (by kernel_rfl) (fun _ _ _ h => h) (Or.inl ⟨by rfl, ?_⟩) hHeld ?_
          rotate_left
          · (intro w hSw; (try dsimp only at hSw); obtain ⟨hs1, hs2⟩ := hSw; go_simp; try with_reducible rfl)
          try simp only [List.getElem_toArray, List.getElem_cons_zero, List.getElem_cons_succ, Act.put, List.setIfInBounds_toArray, List.set_cons_zero, List.set_cons_succ]
          refine wpAnyH_take (i := 13) (v := ?_) rfl (by kernel_rfl) (by kernel_rfl) (by kernel_rfl) (fun _ _ _ h => h) (Or.inl ⟨by rfl, ?_⟩) hHeld ?_
          rotate_left
          · (intro w hSw; (try dsimp only at hSw); obtain ⟨hs1, hs2⟩ := hSw; go_simp; try with_reducible rfl)
          try simp only [List.getElem_toArray, List.getElem_cons_zero, List.getElem_cons_succ, Act.put, List.setIfInBounds_toArray, List.set_cons_zero, List.set_cons_succ]
          refine wpAnyH_take (i := 14) (v := ?_) rfl (by kernel_rfl) (by kernel_rfl) (by kernel_rfl) (fun _ _ _ h => h) (Or.inl ⟨by rfl, ?_⟩) hHeld ?_
          rotate_left
          · (intro w hSw; (try dsimp only at hSw); obtain ⟨hs1, hs2⟩ := hSw; go_simp; try with_reducible rfl)
          try simp only [List.getElem_toArray, List.getElem_cons_zero, List.getElem_cons_succ, Act.put, List.setIfInBounds_toArray, List.set_cons_zero, List.set_cons_succ]
          refine wpAnyH_ready (rs := [1, 15]) (by kernel_rfl) (by simp) ?_
          refine (AllReadyH.cons rfl (fun K hK => ?_) (AllReadyH.cons rfl (fun K hK => ?_) AllReadyH.nil))
          · go_simp
            refine hK.out _ _ ⟨x13, hc⟩ (fun hHeld => ?_)
            clear hK K
            try simp only [List.getElem_toArray, List.getElem_cons_zero, List.getElem_cons_succ, Act.put, List.setIfInBounds_toArray, List.set_cons_zero, List.set_cons_succ]
            refine wpAnyH_ready (rs := [15]) (by kernel_rfl) (by simp) ?_
            refine (AllReadyH.cons rfl (fun K hK => ?_) AllReadyH.nil)
            go_simp
            refine hK.out _ _ ⟨x13', hc8⟩ (fun hHeld => ?_)
            clear hK K
            try simp only [List.getElem_toArray, List.getElem_cons_zero, List.getElem_cons_succ, Act.put, List.setIfInBounds_toArray, List.set_cons_zero, List.set_cons_succ]
            refine wpAnyH_ready (rs := [16]) (by kernel_rfl) (by simp) ?_
            refine (AllReadyH.cons rfl (fun K hK => ?_) AllReadyH.nil)
            refine step_append_lies _ (by rfl) _ _ _ (by rfl) w.heap.size 9 j0 _ 1 16 Try.underlying27 hj hy0 hy1 hy2 rfl (by decide) (.slice xa ts.length xc) ts.length (ts.map strV) (by simp [Act.eval, Act.put]) P3.out ⟨wr.heap.size, 0, none⟩ 1 1 [.string (S sx)] (by simp [Act.eval, Act.put]) rfl (news_strV sx (by first | rfl | simp)) (by simp [Value.oneCell']) (by omega) (by unfold maxLen; omega) (by omega) (by simp; omega) (wr.heap.size + 1) (by simp) ?_
            intro g5 cap5 w5 o5 gr5 hat5 hlt5
            obtain ⟨m1, m2, m3⟩ := HI3.out.mid gr5
            have n1 := m2.cell 13
            simp only [List.getElem?_toArray, List.getElem?_cons_succ, List.getElem?_cons_zero] at n1
            have n2 := hcb.out _ m1
            have kq5 := m3.lt
            have y5 := m3.cell 13
            simp only [List.getElem?_toArray, List.getElem?_cons_succ, List.getElem?_cons_zero] at y5
            have ff5 : ∀ i, w5.frozen? ⟨w.heap.size + 1 + 1, i, none⟩ = false := fun i => Blk.frozen m3 i
            have n3 : (w5.setCell ⟨w.heap.size + 1 + 1, 13, none⟩ (.slice (some ⟨g5, 0, none⟩) (ts.length + 1) cap5)).cell? ⟨w.heap.size, 13, none⟩ = _ := (World.cell?_setCell_far _ _ _ _ (by simp; try omega)).trans n1
            have n4 : (w5.setCell ⟨w.heap.size + 1 + 1, 13, none⟩ (.slice (some ⟨g5, 0, none⟩) (ts.length + 1) cap5)).cell? ⟨b, o + ts.length, none⟩ = _ := (World.cell?_setCell_far _ _ _ _ (by simp; try omega)).trans n2
            have O5 := Lib.hid o5
            have GR5 := Lib.hid gr5
            clear m1 m2 m3 o5 gr5 hat5 hlt5
            refine hK.out _ _ ⟨n1, n2⟩ (fun hHeld => ?_)
            clear hK K
            try simp only [List.getElem_toArray, List.getElem_cons_zero, List.getElem_cons_succ, Act.put, List.setIfInBounds_toArray, List.set_cons_zero, List.set_cons_succ]
            refine wpAnyH_take (i := 17) (v := ?_) rfl (by kernel_rfl) (by kernel_rfl) (by kernel_rfl) (fun _ _ _ h => h) (Or.inl ⟨by rfl, ?_⟩) hHeld ?_
            rotate_left
            · (intro w hSw; (try dsimp only at hSw); obtain ⟨hs1, hs2⟩ := hSw; go_simp; try with_reducible rfl)
            try simp only [List.getElem_toArray, List.getElem_cons_zero, List.getElem_cons_succ, Act.put, List.setIfInBounds_toArray, List.set_cons_zero, List.set_cons_succ]
            refine wpAnyH_ready (rs := [18]) (by kernel_rfl) (by simp) ?_
            refine (AllReadyH.cons rfl (fun K hK => ?_) AllReadyH.nil)
            go_simp
            refine hK.out _ _ ⟨n3, n4⟩ (fun hHeld => ?_)
            clear hK K
            try simp only [List.getElem_toArray, List.getElem_cons_zero, List.getElem_cons_succ, Act.put, List.setIfInBounds_toArray, List.set_cons_zero, List.set_cons_succ]
            refine wpAnyH_done (by kernel_rfl) ?_ _
            go_wp2_with fail
            go_roundw
            case rel =>
              refine ⟨ts.length + 1, ts ++ [sx], .slice (some ⟨g5, 0, none⟩) (ts.length + 1) cap5, by go_num, by omega, by omega, HSN, ?_⟩
              exact HI3.out.app GR5.out (by simpa [strV] using O5.out) rfl
            case measure => simp [intOf]; omega
          · go_simp
            refine hK.out _ _ ⟨x13', hc8⟩ (fun hHeld => ?_)
            clear hK K
            try simp only [List.getElem_toArray, List.getElem_cons_zero, List.getElem_cons_succ, Act.put, List.setIfInBounds_toArray, List.set_cons_zero, List.set_cons_succ]
            refine wpAnyH_ready (rs := [1]) (by kernel_rfl) (by simp) ?_
            refine (AllReadyH.cons rfl (fun K hK => ?_) AllReadyH.nil)
            go_simp
            refine hK.out _ _ ⟨x13', hc8⟩ (fun hHeld => ?_)
            clear hK K
            try simp only [List.getElem_toArray, List.getElem_cons_zero, List.getElem_cons_succ, Act.put, List.setIfInBounds_toArray, List.set_cons_zero, List.set_cons_succ]
            refine wpAnyH_ready (rs := [16]) (by kernel_rfl) (by simp) ?_
            refine (AllReadyH.cons rfl (fun K hK => ?_) AllReadyH.nil)
            refine step_append_lies _ (by rfl) _ _ _ (by rfl) w.heap.size 9 j0 _ 1 16 Try.underlying27 hj hy0 hy1 hy2 rfl (by decide) (.slice xa ts.length xc) ts.length (ts.map strV) (by simp [Act.eval, Act.put]) P3.out ⟨wr.heap.size, 0, none⟩ 1 1 [.string (S sx)] (by simp [Act.eval, Act.put]) rfl (news_strV sx (by first | rfl | simp)) (by simp [Value.oneCell']) (by omega) (by unfold maxLen; omega) (by omega) (by simp; omega) (wr.heap.size + 1) (by simp) ?_
            intro g5 cap5 w5 o5 gr5 hat5 hlt5
            obtain ⟨m1, m2, m3⟩ := HI3.out.mid gr5
            have n1 := m2.cell 13
            simp only [List.getElem?_toArray, List.getElem?_cons_succ, List.getElem?_cons_zero] at n1
            have n2 := hcb.out _ m1
            have kq5 := m3.lt
            have y5 := m3.cell 13
            simp only [List.getElem?_toArray, List.getElem?_cons_succ, List.getElem?_cons_zero] at y5
            have ff5 : ∀ i, w5.frozen? ⟨w.heap.size + 1 + 1, i, none⟩ = false := fun i => Blk.frozen m3 i
            have n3 : (w5.setCell ⟨w.heap.size + 1 + 1, 13, none⟩ (.slice (some ⟨g5, 0, none⟩) (ts.length + 1) cap5)).cell? ⟨w.heap.size, 13, none⟩ = _ := (World.cell?_setCell_far _ _ _ _ (by simp; try omega)).trans n1
            have n4 : (w5.setCell ⟨w.heap.size + 1 + 1, 13, none⟩ (.slice (some ⟨g5, 0, none⟩) (ts.length + 1) cap5)).cell? ⟨b, o + ts.length, none⟩ = _ := (World.cell?_setCell_far _ _ _ _ (by simp; try omega)).trans n2
            have O5 := Lib.hid o5
            have GR5 := Lib.hid gr5
            clear m1 m2 m3 o5 gr5 hat5 hlt5
            refine hK.out _ _ ⟨n1, n2⟩ (fun hHeld => ?_)
            clear hK K
            try simp only [List.getElem_toArray, List.getElem_cons_zero, List.getElem_cons_succ, Act.put, List.setIfInBounds_toArray, List.set_cons_zero, List.set_cons_succ]
            refine wpAnyH_take (i := 17) (v := ?_) rfl (by kernel_rfl) (by kernel_rfl) (by kernel_rfl) (fun _ _ _ h => h) (Or.inl ⟨by rfl, ?_⟩) hHeld ?_
            rotate_left
            · (intro w hSw; (try dsimp only at hSw); obtain ⟨hs1, hs2⟩ := hSw; go_simp; try with_reducible rfl)
            try simp only [List.getElem_toArray, List.getElem_cons_zero, List.getElem_cons_succ, Act.put, List.setIfInBounds_toArray, List.set_cons_zero, List.set_cons_succ]
            refine wpAnyH_ready (rs := [18]) (by kernel_rfl) (by simp) ?_
            refine (AllReadyH.cons rfl (fun K hK => ?_) AllReadyH.nil)
            go_simp
            refine hK.out _ _ ⟨n3, n4⟩ (fun hHeld => ?_)
            clear hK K
            try simp only [List.getElem_toArray, List.getElem_cons_zero, List.getElem_cons_succ, Act.put, List.setIfInBounds_toArray, List.set_cons_zero, List.set_cons_succ]
            refine wpAnyH_done (by kernel_rfl) ?_ _
            go_wp2_with fail
            go_roundw
            case rel =>
              refine ⟨ts.length + 1, ts ++ [sx], .slice (some ⟨g5, 0, none⟩) (ts.length + 1) cap5, by go_num, by omega, by omega, HSN, ?_⟩
              exact HI3.out.app GR5.out (by simpa [strV] using O5.out) rfl
            case measure => simp [intOf]; omega
      · have t1 : decide ((ts.length : Int) < (tops.length : Int)) = true := decide_eq_true (by omega)
        have t2 : decide ((ts.length : Int) < 12) = false := decide_eq_false (by omega)
        have t3 : ((ts.length : Int) < 12) = False := eq_false (by omega)
        have t4 : ((ts.length : Int) < (tops.length : Int)) = True := eq_true (by omega)
        have t5 : (ts.length < 12) = False := eq_false h2
        have t6 : (ts.length < tops.length) = True := eq_true h1
        have hT2 : Hid (ts = cutTops tops) := Lib.hid (by have h := hT.out; unfold cutTops; rw [h]; congr 1; first | (rw [show ts.length = tops.length by omega, List.take_length, List.take_of_length_le (by omega)]) | (rw [show ts.length = 12 by omega]))
        obtain ⟨xa, xc, hxv⟩ := ownForm hI.own
        subst hxv
        have RD := Lib.hid hI.pt
        have RR := Lib.hid hI.rs
        have OWN := Lib.hid hI.own
        have OWR := Lib.hid hI.ownr
        have BEL := Lib.hid hI.below
        clear hI HI hT
        obtain ⟨HP, kp, y0, y1, y2, y3, y4, y5, y6, y7, y8, y9, y10, y11, y12, y13⟩ := arr_cells RD.out
        obtain ⟨HR, kr, z0, z1, z2, z3, z4, z5, z6, z7, z8, z9, z10, z11, z12, z13⟩ := arr_cells RR.out
        have fr : ∀ i, wr.frozen? ⟨w.heap.size + 1, i, none⟩ = false := fun i => Blk.frozen RR.out i
        have FIN := Lib.hid (fun (W : World) (hk : KeptR [w.heap.size + 1] wr W) => hR.out W (.slice va (cutRs recs).length vc) (.slice xa ts.length xc) ⟨⟨(recs_own OWR.out).keptR hk (fun b hb hm => own_ne OWR.out RR.out (by decide) (by rw [hb, List.mem_singleton.1 hm])), Eq.mp (congrArg (fun l => TopsIn W (Value.slice xa ts.length xc) l) hT2.out) ((tops_own OWN.out).keptR hk (fun b hb hm => own_ne OWN.out RR.out (by decide) (by rw [hb, List.mem_singleton.1 hm])))⟩, fun b hb => by have h1 := OWR.out.lt b hb; have h2 := hk.size; omega, fun b hb => by have h1 := OWN.out.lt b hb; have h2 := hk.size; omega, hk.toBelow BEL.out (by simp)⟩)
        try dsimp only [cutC, Cmd.arr] at FIN
        go_wp2_with fail
        refine bodyPost_ret (results_cell1r rfl _ _ (w.heap.size + 1) 29 #[.int .i64 kind, .string (S (topic.take 40)), .int .i64 pn, .int .i64 n, .int .i64 off, .int .i64 bp, .int .i64 be, .int .i64 bq, .slice va (cutRs recs).length vc, .string (S (group.take 40)), .string (S (member.take 40)), .int .i64 gen, .bool robin, .slice xa ts.length xc] (0, 0) _ rfl ?c1 Try.underlying29 rfl (by kernel_rfl)) rfl ?_
        case c1 => exact (set14 HR.out).1
        exact FIN.out _ (set14 HR.out).2
    · have t1 : decide ((ts.length : Int) < (tops.length : Int)) = false := decide_eq_false (by omega)
      have t4 : ((ts.length : Int) < (tops.length : Int)) = False := eq_false (by omega)
      have t6 : (ts.length < tops.length) = False := eq_false h1
      have hT2 : Hid (ts = cutTops tops) := Lib.hid (by have h := hT.out; unfold cutTops; rw [h]; congr 1; first | (rw [show ts.length = tops.length by omega, List.take_length, List.take_of_length_le (by omega)]) | (rw [show ts.length = 12 by omega]))
      obtain ⟨xa, xc, hxv⟩ := ownForm hI.own
      subst hxv
      have RD := Lib.hid hI.pt
      have RR := Lib.hid hI.rs
      have OWN := Lib.hid hI.own
      have OWR := Lib.hid hI.ownr
      have BEL := Lib.hid hI.below
      clear hI HI hT
      obtain ⟨HP, kp, y0, y1, y2, y3, y4, y5, y6, y7, y8, y9, y10, y11, y12, y13⟩ := arr_cells RD.out
      obtain ⟨HR, kr, z0, z1, z2, z3, z4, z5, z6, z7, z8, z9, z10, z11, z12, z13⟩ := arr_cells RR.out
      have fr : ∀ i, wr.frozen? ⟨w.heap.size + 1, i, none⟩ = false := fun i => Blk.frozen RR.out i
      have FIN := Lib.hid (fun (W : World) (hk : KeptR [w.heap.size + 1] wr W) => hR.out W (.slice va (cutRs recs).length vc) (.slice xa ts.length xc) ⟨⟨(recs_own OWR.out).keptR hk (fun b hb hm => own_ne OWR.out RR.out (by decide) (by rw [hb, List.mem_singleton.1 hm])), Eq.mp (congrArg (fun l => TopsIn W (Value.slice xa ts.length xc) l) hT2.out) ((tops_own OWN.out).keptR hk (fun b hb hm => own_ne OWN.out RR.out (by decide) (by rw [hb, List.mem_singleton.1 hm])))⟩, fun b hb => by have h1 := OWR.out.lt b hb; have h2 := hk.size; omega, fun b hb => by have h1 := OWN.out.lt b hb; have h2 := hk.size; omega, hk.toBelow BEL.out (by simp)⟩)
      try dsimp only [cutC, Cmd.arr] at FIN
      go_wp2_with fail
      refine bodyPost_ret (results_cell1r rfl _ _ (w.heap.size + 1) 29 #[.int .i64 kind, .string (S (topic.take 40)), .int .i64 pn, .int .i64 n, .int .i64 off, .int .i64 bp, .int .i64 be, .int .i64 bq, .slice va (cutRs recs).length vc, .string (S (group.take 40)), .string (S (member.take 40)), .int .i64 gen, .bool robin, .slice xa ts.length xc] (0, 0) _ rfl ?c2 Try.underlying29 rfl (by kernel_rfl)) rfl ?_
      case c2 => exact (set14 HR.out).1
      exact FIN.out _ (set14 HR.out).2
end Go.Proofs.Ythiliodmbipikaa
