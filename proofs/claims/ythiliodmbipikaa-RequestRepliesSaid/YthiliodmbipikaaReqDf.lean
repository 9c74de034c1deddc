/-
  Layer 4, the document: a reply got.
-/
import Derived.Test.YthiliodmbipikaaReqDe
import Derived.Test.YthiliodmbipikaaReqDi
import Derived.Test.YthiliodmbipikaaReqY
import Derived.Test.YthiliodmbipikaaRecI
import Derived.Deep.DeepCutAuto
set_option linter.unusedVariables false
set_option linter.unusedSimpArgs false
namespace Go.Proofs.Ythiliodmbipikaa
open Go.RowKit
attribute [local go_sem] ByteArray.extract_mk ByteArray.mk_append_mk

/-- The blocks of the document's Parse, and its rows. -/
structure DI4 (w0 W : World) (s : List UInt8) (a : Int) (bad : Bool) (v1 v2 v3 v4 : Int) (fv pv : Value) (fs : List Fnd) (ps : List Prt) : Prop where
  rs : Blk W w0.heap.size #[.int .i64 0, .int .i64 0, .int .i64 0, .int .i64 0, .slice none 0 0, .slice none 0 0] 38
  rd : Blk W (w0.heap.size + 1) (inr s a bad) 107
  x : Blk W (w0.heap.size + 1 + 1) #[.int .i64 v1, .int .i64 v2, .int .i64 v3, .int .i64 v4, fv, pv] 38
  own : W.ownsRow w0.heap.size 70 5 fv fs.length (fs.flatMap Fnd.cells)
  ownp : W.ownsRow w0.heap.size 23 2 pv ps.length (ps.flatMap Prt.cells)
  bel : Below w0.heap.size w0 W
theorem rows_apartD {w : World} {B B' s s' n n' : Nat} {e e' : TypeId} {v v' : Value} {xs xs' : List Value} (h : w.ownsRow B e s v n xs) (k : w.ownsRow B' e' s' v' n' xs') (he : e ≠ e') : v.ownBlock = none ∨ v.ownBlock ≠ v'.ownBlock := by
  rcases h.2 with ⟨rfl, _⟩ | ⟨q, cap, cur, rfl, _, hq, _⟩
  · exact .inl rfl
  · refine .inr fun e1 => ?_
    rcases k.2 with ⟨rfl, _⟩ | ⟨q2, cap2, cur2, rfl, _, hq2, _⟩
    · simp [Value.ownBlock] at e1
    · simp only [Value.ownBlock, Option.some.injEq] at e1
      subst e1
      rw [hq] at hq2
      simp only [Option.some.injEq, Obj.cells.injEq] at hq2
      exact he hq2.2.1
section
variable {w0 W V : World} {s : List UInt8} {a a' : Int} {bad bad' : Bool} {v1 v2 v3 v4 u1 u2 u3 u4 : Int} {fv pv fv' pv' : Value} {fs : List Fnd} {ps : List Prt}
theorem DI4.lt (h : DI4 w0 W s a bad v1 v2 v3 v4 fv pv fs ps) : w0.heap.size + 1 + 1 < W.heap.size := h.x.lt
theorem DI4.on (h : DI4 w0 W s a bad v1 v2 v3 v4 fv pv fs ps) (p1 : Blk V (w0.heap.size + 1) (inr s a' bad') 107) (k : KeptR [w0.heap.size + 1] W V) : DI4 w0 V s a' bad' v1 v2 v3 v4 fv pv fs ps :=
  ⟨h.rs.keptR k (by simp), p1, h.x.keptR k (by simp), own_keptR h.own k (fun b hb hm => own_ne h.own h.rd (by decide) (by rw [hb, List.mem_singleton.1 hm])), own_keptR h.ownp k (fun b hb hm => own_ne h.ownp h.rd (by decide) (by rw [hb, List.mem_singleton.1 hm])), k.toBelow h.bel (by simp; try omega)⟩
theorem DI4.away {bs : List Nat} (h : DI4 w0 W s a bad v1 v2 v3 v4 fv pv fs ps) (k : KeptR bs W V) (hb : ∀ b ∈ bs, w0.heap.size + 1 + 1 < b) (h1 : ∀ b, fv.ownBlock = some b → b ∉ bs) (h2 : ∀ b, pv.ownBlock = some b → b ∉ bs) : DI4 w0 V s a bad v1 v2 v3 v4 fv pv fs ps :=
  ⟨h.rs.keptR k (fun m => by have := hb _ m; omega), h.rd.keptR k (fun m => by have := hb _ m; omega), h.x.keptR k (fun m => by have := hb _ m; omega), own_keptR h.own k h1, own_keptR h.ownp k h2, k.toBelow h.bel (fun b m => by have := hb _ m; omega)⟩
theorem DI4.bel' (h : DI4 w0 W s a bad v1 v2 v3 v4 fv pv fs ps) (hb : Below W.heap.size W V) : DI4 w0 V s a bad v1 v2 v3 v4 fv pv fs ps := h.away ((KeptR.refl [] W).bel hb) (by simp) (by simp) (by simp)
theorem DI4.setX (h : DI4 w0 W s a bad v1 v2 v3 v4 fv pv fs ps) (i : Nat) (v : Value) (he : (#[.int .i64 v1, .int .i64 v2, .int .i64 v3, .int .i64 v4, fv, pv] : Array Value).setIfInBounds i v = #[.int .i64 u1, .int .i64 u2, .int .i64 u3, .int .i64 u4, fv, pv]) :
    DI4 w0 (W.setCell ⟨w0.heap.size + 1 + 1, i, none⟩ v) s a bad u1 u2 u3 u4 fv pv fs ps := by
  have k : KeptR [w0.heap.size + 1 + 1] W (W.setCell ⟨w0.heap.size + 1 + 1, i, none⟩ v) := (KeptR.refl _ W).set (by simp) i v
  exact ⟨h.rs.keptR k (by simp; try omega), h.rd.keptR k (by simp), he ▸ h.x.set i v, own_keptR h.own k (fun b hb hm => own_ne h.own h.x (by decide) (by rw [hb, List.mem_singleton.1 hm])), own_keptR h.ownp k (fun b hb hm => own_ne h.ownp h.x (by decide) (by rw [hb, List.mem_singleton.1 hm])), k.toBelow h.bel (by simp; try omega)⟩
theorem DI4.appF {f : Fnd} (h : DI4 w0 W s a bad v1 v2 v3 v4 fv pv fs ps) (g : W.grownBy V fv.ownBlock) (o : V.ownsRow w0.heap.size 70 5 fv' (fs.length + 1) (fs.flatMap Fnd.cells ++ f.cells)) :
    DI4 w0 (V.setCell ⟨w0.heap.size + 1 + 1, 4, none⟩ fv') s a bad v1 v2 v3 v4 fv' pv (fs ++ [f]) ps := by
  have hx := h.x.grown g (own_ne h.own h.x (by decide))
  have B0 : Below w0.heap.size w0 V := ⟨g.os.trans h.bel.os, g.tape.trans h.bel.tape, g.output.trans h.bel.output, Nat.le_trans h.bel.size g.size, fun k hk => (g.block k (Nat.lt_of_lt_of_le hk h.bel.size) (fun e1 => by have := (h.own.lt k e1.symm).1; omega)).trans (h.bel.block k hk)⟩
  have G2 : V.grownBy (V.setCell ⟨w0.heap.size + 1 + 1, 4, none⟩ fv') (some (w0.heap.size + 1 + 1)) := grown_set (grown_refl _ _) _ _
  have hne : pv.ownBlock = none ∨ pv.ownBlock ≠ fv.ownBlock := rows_apartD h.ownp h.own (by decide)
  have op := h.ownp.kept g hne
  have oo := o.kept G2 (.inr (Ne.symm (own_ne o hx (by decide))))
  exact ⟨(h.rs.grown g (own_ne h.own h.rs (by decide))).setOther (by simp; try omega) _, (h.rd.grown g (own_ne h.own h.rd (by decide))).setOther (by simp; try omega) _, hx.set 4 fv', by simpa using oo, op.kept G2 (.inr (Ne.symm (own_ne op hx (by decide)))), B0.setCell (p := ⟨w0.heap.size + 1 + 1, 4, none⟩) (by simp; try omega) _⟩
theorem DI4.appP {f : Prt} (h : DI4 w0 W s a bad v1 v2 v3 v4 fv pv fs ps) (g : W.grownBy V pv.ownBlock) (o : V.ownsRow w0.heap.size 23 2 pv' (ps.length + 1) (ps.flatMap Prt.cells ++ f.cells)) :
    DI4 w0 (V.setCell ⟨w0.heap.size + 1 + 1, 5, none⟩ pv') s a bad v1 v2 v3 v4 fv pv' fs (ps ++ [f]) := by
  have hx := h.x.grown g (own_ne h.ownp h.x (by decide))
  have B0 : Below w0.heap.size w0 V := ⟨g.os.trans h.bel.os, g.tape.trans h.bel.tape, g.output.trans h.bel.output, Nat.le_trans h.bel.size g.size, fun k hk => (g.block k (Nat.lt_of_lt_of_le hk h.bel.size) (fun e1 => by have := (h.ownp.lt k e1.symm).1; omega)).trans (h.bel.block k hk)⟩
  have G2 : V.grownBy (V.setCell ⟨w0.heap.size + 1 + 1, 5, none⟩ pv') (some (w0.heap.size + 1 + 1)) := grown_set (grown_refl _ _) _ _
  have hne : fv.ownBlock = none ∨ fv.ownBlock ≠ pv.ownBlock := rows_apartD h.own h.ownp (by decide)
  have op := h.own.kept g hne
  have oo := o.kept G2 (.inr (Ne.symm (own_ne o hx (by decide))))
  exact ⟨(h.rs.grown g (own_ne h.ownp h.rs (by decide))).setOther (by simp; try omega) _, (h.rd.grown g (own_ne h.ownp h.rd (by decide))).setOther (by simp; try omega) _, hx.set 5 pv', op.kept G2 (.inr (Ne.symm (own_ne op hx (by decide)))), by simpa using oo, B0.setCell (p := ⟨w0.heap.size + 1 + 1, 5, none⟩) (by simp; try omega) _⟩
end
/-- A record, read by the document. -/
theorem step_recD {s : List UInt8} {a t2 e2 : Int} {r : Rec} {bad : Bool} (hv : mget s a = (r, t2, e2)) : Step s Rec.text (fun r => r.ok = 0) a (be bad) r t2 (be (bad || e2 != 0)) ∧ RecBd r := by
  obtain ⟨hg, hr0⟩ := mget_go hv
  refine ⟨⟨fun y b h0 hy hat => ?_, fun h => ?_⟩, ?_⟩
  · have h1 := mget_full hat hy
    rw [hv] at h1
    simp only [Prod.mk.injEq] at h1
    obtain ⟨rfl, rfl, rfl⟩ := h1
    rw [be_zero h0]
    exact ⟨rfl, rfl, rfl⟩
  · have h1 := be_zero h
    rw [Bool.or_eq_false_iff] at h1
    rw [h1.1]
    exact ⟨rfl, (hg (by simpa using h1.2)).1⟩
  · by_cases he : e2 = 0
    · exact rok_bd (hg he).2
    · rw [hr0 he]; exact ⟨by simp [r0], by simp [r0]⟩
theorem grl_stopD {α : Type} {enc : α → List UInt8} {good bd : α → Prop} {s : List UInt8} {n a1 e1 : Int} {i : Nat} {ts : List α} {a : Int} {bad : Bool} (h : GRl enc good bd s n a1 e1 i ts a (be bad)) (hs : ¬ ((i : Int) < n ∧ bad = false ∧ i < 65)) (N : List α) (b : Int) (h0 : e1 = 0) (hn : n = N.length) (hN : ∀ t ∈ N, good t) (h64 : N.length ≤ 64) (hat : At s a1 (N.flatMap enc) b) :
    ts = N ∧ a = b ∧ be bad = 0 := by
  obtain ⟨k1, k2, k3, k4⟩ := h.full N b h0 hn hN hat
  refine h.stop (fun hc => hs ⟨hc.1, be_zero hc.2, by omega⟩) h0 hn hN hat
theorem parse_fullD {s : List UInt8} {e off n gen fo a1 a2 a3 a4 a5 e1 e2 e3 e4 e5 : Int} (h1 : NumS s 0 0 e a1 e1) (h2 : NumS s a1 e1 off a2 e2) (h3 : NumS s a2 e2 n a3 e3) (h4 : NumS s a3 e3 gen a4 e4) (h5 : NumS s a4 e4 fo a5 e5)
    {fs : List Fnd} {a6 e6 : Int} (hF : ∀ (N : List Fnd) (b : Int), e5 = 0 → fo = N.length → (∀ t ∈ N, fGood t) → N.length ≤ 64 → At s a5 (N.flatMap fndText) b → fs = N ∧ a6 = b ∧ e6 = 0)
    {pn a7 e7 : Int} (h7 : NumS s a6 e6 pn a7 e7) {ps : List Prt} {a8 e8 : Int} (hP : ∀ (N : List Prt) (b : Int), e7 = 0 → pn = N.length → (∀ t ∈ N, pGood t) → N.length ≤ 64 → At s a7 (N.flatMap prtText) b → ps = N ∧ a8 = b ∧ e8 = 0) :
    ∀ y, repCheck y = 0 → repText y = s → (⟨e, off, n, gen, fs, ps⟩ : Rep) = y ∧ e8 = 0 := by
  intro y hy ht
  have ok := repCheck_ok hy
  have hat := at_whole s
  have hat' : At s 0 (repText y) s.length := by rw [ht]; exact hat
  unfold repText at hat'
  obtain ⟨g1, r1⟩ := hat'.split
  obtain ⟨x1, b1, f1⟩ := h1.full y.e _ rfl (numB_range ok.e) g1
  rw [← b1] at r1
  obtain ⟨g2, r2⟩ := r1.split
  obtain ⟨x2, b2, f2⟩ := h2.full y.off _ f1 (numB_range ok.off) g2
  rw [← b2] at r2
  obtain ⟨g3, r3⟩ := r2.split
  obtain ⟨x3, b3, f3⟩ := h3.full y.n _ f2 (numB_range ok.n) g3
  rw [← b3] at r3
  obtain ⟨g4, r4⟩ := r3.split
  obtain ⟨x4, b4, f4⟩ := h4.full y.gen _ f3 (numB_range ok.gen) g4
  rw [← b4] at r4
  obtain ⟨g5, r5⟩ := r4.split
  have lf := ok.found.1
  have lp := ok.parts.1
  obtain ⟨x5, b5, f5⟩ := h5.full (y.found.length : Int) _ f4 (by omega) (by simpa using g5)
  rw [← b5] at r5
  obtain ⟨g6, r6⟩ := r5.split
  obtain ⟨x6, b6, f6⟩ := hF y.found _ f5 x5 ok.found.2 lf g6
  rw [← b6] at r6
  obtain ⟨g7, r7⟩ := r6.split
  obtain ⟨x7, b7, f7⟩ := h7.full (y.parts.length : Int) _ f6 (by omega) (by simpa using g7)
  rw [← b7] at r7
  obtain ⟨x8, _, f8⟩ := hP y.parts _ f7 x7 ok.parts.2 lp r7
  exact ⟨by rw [x1, x2, x3, x4, x6, x8], f8⟩
theorem startD (s : List UInt8) (w : World) : ∃ W0, ((w.alloc (.cells #[.int .i64 0, .int .i64 0, .int .i64 0, .int .i64 0, .slice none 0 0, .slice none 0 0] 38)).alloc (.cells #[.string (S s), .int .i64 0, .bool false] 107)).alloc (.cells #[.int .i64 0, .int .i64 0, .int .i64 0, .int .i64 0, .slice none 0 0, .slice none 0 0] 38) = W0 ∧
    DI4 w W0 s 0 false 0 0 0 0 (.slice none 0 0) (.slice none 0 0) [] [] := by
  have n0 := Blk.new w #[.int .i64 0, .int .i64 0, .int .i64 0, .int .i64 0, .slice none 0 0, .slice none 0 0] 38
  have n1 := Blk.new (w.alloc (.cells #[.int .i64 0, .int .i64 0, .int .i64 0, .int .i64 0, .slice none 0 0, .slice none 0 0] 38)) #[.string (S s), .int .i64 0, .bool false] 107
  have n2 := Blk.new ((w.alloc (.cells #[.int .i64 0, .int .i64 0, .int .i64 0, .int .i64 0, .slice none 0 0, .slice none 0 0] 38)).alloc (.cells #[.string (S s), .int .i64 0, .bool false] 107)) #[.int .i64 0, .int .i64 0, .int .i64 0, .int .i64 0, .slice none 0 0, .slice none 0 0] 38
  rw [World.size_alloc] at n1
  rw [World.size_alloc, World.size_alloc] at n2
  exact ⟨_, rfl, (n0.alloc _).alloc _, n1.alloc _, n2, World.ownsRow_nil _ _ _ _, World.ownsRow_nil _ _ _ _, below_all (below_all (below_all (Below.refl _ _)))⟩
set_option maxHeartbeats 8000000 in
set_option maxRecDepth 100000 in
theorem dparse4 (s : List UInt8) (w : World) (hl9 : s.length ≤ 900000) : ParseRep 25 s w := by
  refine ParseRep.intro fun R hR => ?_
  have HL : Hid (s.length ≤ maxLen) := Lib.hid (by unfold maxLen; omega)
  clear hl9
  obtain ⟨W0, hW0, D0'⟩ := startD s w
  have D0 := Lib.hid D0'
  have HW0 := Lib.hid hW0
  clear D0' hW0
  go_enter Try.func25, Try.ntmps25
  go_wp2_with fail
  rw [HW0.out]
  clear HW0
  have cc1 := Lib.hid (in_num s 0 false (w.heap.size + 1) W0 HL.out D0.out.rd)
  refine cc1.out.use ?_
  intro w1 u1 a1 bad1 p1 k1 st1
  obtain ⟨v1, rfl, hb1, hs1⟩ := st1
  have S1 : Hid (NumS s 0 (be false) v1 a1 (be bad1)) := Lib.hid hs1
  have E1 := Lib.hid (D0.out.on p1 k1)
  have D1 := Lib.hid (E1.out.setX (u1 := v1) (u2 := 0) (u3 := 0) (u4 := 0) 0 (.int .i64 v1) rfl)
  obtain ⟨kx, x0, x1, x2, x3, x4, x5⟩ := arr6_cells E1.out.x
  have fx : ∀ i, w1.frozen? ⟨w.heap.size + 1 + 1, i, none⟩ = false := fun i => Blk.frozen E1.out.x i
  clear cc1 p1 k1 hs1 hb1 D0
  go_wp2_with fail
  clear kx x0 x1 x2 x3 x4 x5 fx E1
  generalize w1.setCell ⟨w.heap.size + 1 + 1, 0, none⟩ (.int .i64 v1) = W1 at D1 ⊢
  have cc2 := Lib.hid (in_num s a1 bad1 (w.heap.size + 1) W1 HL.out D1.out.rd)
  refine cc2.out.use ?_
  intro w2 u2 a2 bad2 p2 k2 st2
  obtain ⟨v2, rfl, hb2, hs2⟩ := st2
  have S2 : Hid (NumS s a1 (be bad1) v2 a2 (be bad2)) := Lib.hid hs2
  have E2 := Lib.hid (D1.out.on p2 k2)
  have D2 := Lib.hid (E2.out.setX (u1 := v1) (u2 := v2) (u3 := 0) (u4 := 0) 1 (.int .i64 v2) rfl)
  obtain ⟨kx, x0, x1, x2, x3, x4, x5⟩ := arr6_cells E2.out.x
  have fx : ∀ i, w2.frozen? ⟨w.heap.size + 1 + 1, i, none⟩ = false := fun i => Blk.frozen E2.out.x i
  clear cc2 p2 k2 hs2 hb2 D1
  go_wp2_with fail
  clear kx x0 x1 x2 x3 x4 x5 fx E2
  generalize w2.setCell ⟨w.heap.size + 1 + 1, 1, none⟩ (.int .i64 v2) = W2 at D2 ⊢
  have cc3 := Lib.hid (in_num s a2 bad2 (w.heap.size + 1) W2 HL.out D2.out.rd)
  refine cc3.out.use ?_
  intro w3 u3 a3 bad3 p3 k3 st3
  obtain ⟨v3, rfl, hb3, hs3⟩ := st3
  have S3 : Hid (NumS s a2 (be bad2) v3 a3 (be bad3)) := Lib.hid hs3
  have E3 := Lib.hid (D2.out.on p3 k3)
  have D3 := Lib.hid (E3.out.setX (u1 := v1) (u2 := v2) (u3 := v3) (u4 := 0) 2 (.int .i64 v3) rfl)
  obtain ⟨kx, x0, x1, x2, x3, x4, x5⟩ := arr6_cells E3.out.x
  have fx : ∀ i, w3.frozen? ⟨w.heap.size + 1 + 1, i, none⟩ = false := fun i => Blk.frozen E3.out.x i
  clear cc3 p3 k3 hs3 hb3 D2
  go_wp2_with fail
  clear kx x0 x1 x2 x3 x4 x5 fx E3
  generalize w3.setCell ⟨w.heap.size + 1 + 1, 2, none⟩ (.int .i64 v3) = W3 at D3 ⊢
  have cc4 := Lib.hid (in_num s a3 bad3 (w.heap.size + 1) W3 HL.out D3.out.rd)
  refine cc4.out.use ?_
  intro w4 u4 a4 bad4 p4 k4 st4
  obtain ⟨v4, rfl, hb4, hs4⟩ := st4
  have S4 : Hid (NumS s a3 (be bad3) v4 a4 (be bad4)) := Lib.hid hs4
  have E4 := Lib.hid (D3.out.on p4 k4)
  have D4 := Lib.hid (E4.out.setX (u1 := v1) (u2 := v2) (u3 := v3) (u4 := v4) 3 (.int .i64 v4) rfl)
  obtain ⟨kx, x0, x1, x2, x3, x4, x5⟩ := arr6_cells E4.out.x
  have fx : ∀ i, w4.frozen? ⟨w.heap.size + 1 + 1, i, none⟩ = false := fun i => Blk.frozen E4.out.x i
  clear cc4 p4 k4 hs4 hb4 D3
  go_wp2_with fail
  clear kx x0 x1 x2 x3 x4 x5 fx E4
  generalize w4.setCell ⟨w.heap.size + 1 + 1, 3, none⟩ (.int .i64 v4) = W4 at D4 ⊢
  have cc5 := Lib.hid (in_num s a4 bad4 (w.heap.size + 1) W4 HL.out D4.out.rd)
  refine cc5.out.use ?_
  intro w5 u5 a5 bad5 p5 k5 st5
  obtain ⟨v5, rfl, hb5, hs5⟩ := st5
  have S5 : Hid (NumS s a4 (be bad4) v5 a5 (be bad5)) := Lib.hid hs5
  have E5 := Lib.hid (D4.out.on p5 k5)
  have HG0 : Hid (GRl fndText fGood (fun f : Fnd => RecBd f.r) s v5 a5 (be bad5) 0 [] a5 (be bad5)) := Lib.hid (GRl.start (fun h => by have := S5.out.go h; omega))
  clear cc5 p5 k5 hs5 hb5 D4
  go_wp2_with fail
  go_loopw [7, 8, 9, 10, 11] (fun (x7 x8 x9 x10 x11 : Value) (W : World) => ∃ (i : Nat) (fs : List Fnd) (fv : Value) (a : Int) (bad : Bool), x7 = .int .i64 (i : Int) ∧ i ≤ 65 ∧ Hid (GRl fndText fGood (fun f : Fnd => RecBd f.r) s v5 a5 (be bad5) i fs a (be bad)) ∧ Hid (DI4 w W s a bad v1 v2 v3 v4 fv (.slice none 0 0) fs [])) (fun (x7 x8 x9 x10 x11 : Value) (W : World) => (65 - intOf x7).toNat)
  case atStart => exact ⟨0, [], _, a5, bad5, rfl, by omega, HG0, E5⟩
  case round =>
    clear HG0 E5
    obtain ⟨i, fs, fv, a, bad, rfl, hi65, hG, hF⟩ := hrel
    have rd := hF.out.rd
    unfold inr at rd
    obtain ⟨k0, x0, x1, x2⟩ := rd.c3
    clear rd
    by_cases hgo : (i : Int) < v5 ∧ bad = false ∧ i < 65
    · obtain ⟨hin, hbad, h65⟩ := hgo
      subst hbad
      obtain rfl : i = fs.length := hG.out.len.symm
      have hlt := hF.out.lt
      have cN := Lib.hid (in_num s a false (w.heap.size + 1) wr HL.out hF.out.rd)
      have t1 : decide ((fs.length : Int) < v5) = true := decide_eq_true hin
      have t1b : ((fs.length : Int) < v5) = True := eq_true hin
      have t2 : decide ((fs.length : Int) < 65) = true := decide_eq_true (by omega)
      have t2b : ((fs.length : Int) < 65) = True := eq_true (by omega)
      have t2c : (fs.length < 65) = True := eq_true h65
      go_wp2_with fail
      refine cN.out.use ?_
      intro w1 u a1 bad1 p1 k1 st
      obtain ⟨n, rfl, hbn, hsn⟩ := st
      have S1n : Hid (NumS s a (be false) n a1 (be bad1)) := Lib.hid hsn
      have F1 := Lib.hid (hF.out.on p1 k1)
      have OWB : Hid (∀ b, fv.ownBlock = some b → b < w1.heap.size) := Lib.hid (fun b hb => (F1.out.own.lt b hb).2)
      obtain ⟨⟨r, t2x, e2⟩, hv⟩ : ∃ m, mget s a1 = m := ⟨_, rfl⟩
      have ST := Lib.hid (step_fnd S1n.out (step_recD (bad := bad1) hv).1)
      have SB := Lib.hid (step_recD (bad := bad1) hv).2
      have cG := Lib.hid (fun w => (rget3_any s a1 w HL.out).cast (v' := .tuple #[.agg #[.bool r.hk, .string (S r.key), .bool r.tb, .string (S r.val)], .int .i64 t2x, .int .i64 e2]) (by rw [hv]; rfl))
      obtain ⟨B2, hB2⟩ : ∃ B2, (bad1 || e2 != 0) = B2 := ⟨_, rfl⟩
      rw [hB2] at ST
      clear cN p1 k1 hbn hsn hv k0 x0 x1 x2 t1 t1b t2 t2b t2c
      obtain ⟨rk, rkey, rt, rval⟩ := r
      dsimp only at cG
      obtain ⟨w2, hw2⟩ : ∃ w2, w1.alloc (.cells #[.int .i64 n, .bool false, .string (S []), .bool false, .string (S [])] 70) = w2 := ⟨_, rfl⟩
      have hB12 : Below w1.heap.size w1 w2 := hw2 ▸ below_all (Below.refl _ _)
      have F2 := Lib.hid (F1.out.bel' hB12)
      have Q2 : Hid (Blk w2 w1.heap.size #[.int .i64 n, .bool false, .string (S []), .bool false, .string (S [])] 70) := Lib.hid (hw2 ▸ Blk.new w1 _ _)
      have hlt1 := F1.out.lt
      have hsz : w1.heap.size < w2.heap.size := Q2.out.lt
      have rd := F2.out.rd
      unfold inr at rd
      obtain ⟨k0, x0, x1, x2⟩ := rd.c3
      clear rd hB12 F1
      have HW2 := Lib.hid hw2
      clear hw2
      go_upto_region 11 with fail
      rw [HW2.out]
      clear HW2
      go_cut [9, 10, 11] (fun x9 x10 x11 wx => ∃ bx, x9 = .pointer (some ⟨bx, 0, none⟩) ∧ x10 = .int .i64 t2x ∧ x11 = .int .i64 e2 ∧ Hid (w2.heap.size ≤ bx ∧ Blk wx bx #[.bool rk, .string (S rkey), .bool rt, .string (S rval)] 68 ∧ Below w2.heap.size w2 wx))
      case first =>
        have RDh : Blk w2 (w.heap.size + 1) #[.string (S s), .int .i64 a1, .bool bad1] 107 := F2.out.rd
        have RDH := Lib.hid RDh
        clear RDh
        have hn1 : (w2.heap.size = w.heap.size + 1) = False := eq_false (by omega)
        have hn2 : (w.heap.size + 1 = w2.heap.size) = False := eq_false (by omega)
        have hn3 : w2.heap.size ≠ w.heap.size + 1 := by omega
        have hn4 : w.heap.size + 1 ≠ w2.heap.size := by omega
        go_region_held3 (fun w' => w'.cell? ⟨w.heap.size + 1, 0, none⟩ = some (.string (S s)) ∧ w'.cell? ⟨w.heap.size + 1, 1, none⟩ = some (.int .i64 a1)) (go_keep) (first | (go_at_call 59; refine (cG.out _).use ?_; intro w3 b3; have RD2 : Blk w3 (w.heap.size + 1) #[.string (S s), .int .i64 a1, .bool bad1] 107 := (by first | exact rdA4 RDH.out b3 | exact rdB4 RDH.out b3); obtain ⟨hk0, hx0, hx1, hx2⟩ := RD2.c3; have hc0 := fun (i : Nat) (h : w2.heap.size < _) => b3.cell (p := ⟨w2.heap.size, i, none⟩) h; have hf0 := fun (i : Nat) (h : w2.heap.size < _) => b3.frozen (p := ⟨w2.heap.size, i, none⟩) h))
        all_goals go_wp2_with fail
        all_goals go_meet
        all_goals first
          | (obtain ⟨P1, P2, P3⟩ := frA4 (W1 := w2) #[.bool rk, .string (S rkey), .bool rt, .string (S rval)] 68 b3
             exact ⟨_, rfl, rfl, rfl, Lib.hid ⟨P3, P2, P1⟩⟩)
          | (obtain ⟨P1, P2, P3⟩ := frB4 (.bool rk) (.string (S rkey)) (.bool rt) (.string (S rval)) b3
             exact ⟨_, rfl, rfl, rfl, Lib.hid ⟨P3, P2, P1⟩⟩)
      case rest =>
        obtain ⟨bx, rfl, rfl, rfl, HX⟩ := hcut
        have F3 := Lib.hid (F2.out.bel' HX.out.2.2)
        have Q3 := Lib.hid (Q2.out.below HX.out.2.2)
        have rd := F3.out.rd
        unfold inr at rd
        have fr : ∀ i, wc.frozen? ⟨w.heap.size + 1, i, none⟩ = false := fun i => Blk.frozen F3.out.rd i
        obtain ⟨m0, m1, m2, m3⟩ := rd.c3
        have KR : KeptR [w.heap.size + 1] wc ((wc.setCell ⟨w.heap.size + 1, 2, none⟩ (.bool B2)).setCell ⟨w.heap.size + 1, 1, none⟩ (.int .i64 t2x)) := ((KeptR.refl _ wc).set (by simp) 2 _).set (by simp) 1 _
        have F4 := Lib.hid (F3.out.on (a' := t2x) (bad' := B2) (show Blk ((wc.setCell ⟨w.heap.size + 1, 2, none⟩ (.bool B2)).setCell ⟨w.heap.size + 1, 1, none⟩ (.int .i64 t2x)) (w.heap.size + 1) (inr s t2x B2) 107 from (rd.set 2 (.bool B2)).set 1 (.int .i64 t2x)) KR)
        have Q4 := Lib.hid (Q3.out.keptR KR (by simp; omega))
        have X4 := Lib.hid (HX.out.2.1.keptR KR (by have := HX.out.1; simp; omega))
        clear rd KR k0 x0 x1 x2
        go_upto_region 12 with fail
        go_cut [] (fun wx => wx = wc.setCell ⟨w.heap.size + 1, 2, none⟩ (.bool B2))
        case' first =>
          cases bad1
          · have hB3 : (e2 != 0) = B2 := by simpa using hB2
            go_wp2_with fail
            go_meet
            exact rfl
          · have hB3 : true = B2 := by simpa using hB2
            subst hB3
            go_wp2_with fail
            go_meet
            exact rfl
        subst hcut
        clear hB2 F3 Q3 HX
        go_upto_region 14 with fail
        generalize (wc.setCell ⟨w.heap.size + 1, 2, none⟩ (.bool B2)).setCell ⟨w.heap.size + 1, 1, none⟩ (.int .i64 t2x) = w4 at F4 Q4 X4 ⊢
        clear m0 m1 m2 m3 fr
        obtain ⟨i0, hi, hz0, hz1, hz2⟩ := info_parts fndInfo
        obtain ⟨kb, b0, b1, b2, b3⟩ := X4.out.c4
        obtain ⟨kf, f0, f1, f2, f3, f4⟩ := arr5_cells Q4.out
        have ff : ∀ i, w4.frozen? ⟨w1.heap.size, i, none⟩ = false := fun i => Blk.frozen Q4.out i
        have F5 := Lib.hid (F4.out.away (set4at (.bool rk) (.string (S rkey)) (.bool rt) (.string (S rval)) Q4.out).2 (by simp; omega) (fun b hb hm => by have := OWB.out b hb; have := List.mem_singleton.1 hm; omega) (by simp [Value.ownBlock]))
        have Q5 := Lib.hid (set4at (.bool rk) (.string (S rkey)) (.bool rt) (.string (S rval)) Q4.out).1
        go_upto_region 15 with fail
        clear kb b0 b1 b2 b3 kf f0 f1 f2 f3 f4 ff
        generalize ((((w4.setCell ⟨w1.heap.size, 1, none⟩ (.bool rk)).setCell ⟨w1.heap.size, 2, none⟩ (.string (S rkey))).setCell ⟨w1.heap.size, 3, none⟩ (.bool rt)).setCell ⟨w1.heap.size, 4, none⟩ (.string (S rval))) = w5x at F5 Q5 ⊢
        obtain ⟨kf, f0, f1, f2, f3, f4⟩ := arr5_cells Q5.out
        obtain ⟨kx, g0, g1, g2, g3, g4, g5⟩ := arr6_cells F5.out.x
        obtain ⟨fa, fc, rfl⟩ := own_form F5.out.own
        have FA := Lib.hid (F5.out.bel' (below_all (o := .cells #[.int .i64 n, .bool rk, .string (S rkey), .bool rt, .string (S rval)] 70) (Below.refl _ _)))
        have hne := news_fnd (W := w5x) (⟨n, ⟨rk, rkey, rt, rval⟩⟩ : Fnd) (s := w5x.heap.size) rfl
        unfold Fnd.cells Rec.cells at hne
        dsimp only at hne
        have hws := F5.out.bel.size
        have GS := Lib.hid (hG.out.step hin (t := (⟨n, ⟨rk, rkey, rt, rval⟩⟩ : Fnd)) ST.out SB.out)
        have OA := Lib.hid FA.out.own
        go_wp2_with (at_builtin; refine wpList_append_own_at _ rfl _ _ 35 rfl w.heap.size 70 i0 _ 5 56 Try.underlying35 hi hz0 hz1 hz2 rfl (by decide) _ _ _ rfl OA.out ⟨w5x.heap.size, 0, none⟩ 1 1 [.int .i64 n, .bool rk, .string (S rkey), .bool rt, .string (S rval)] rfl rfl hne (by simp [Value.oneCell']) (by unfold maxLen; omega) (by omega) (by simp; omega) ?_; intro vv5 w9 o9 g9 z9 at9; obtain ⟨va9, vc9, rfl⟩ := own_form o9; obtain ⟨k9, r0x, r1x, r2x, r3x, r4x, r5x⟩ := arr6_cells (FA.out.x.grown g9 (own_ne FA.out.own FA.out.x (by decide))); have fz9 : ∀ i, w9.frozen? ⟨w.heap.size + 1 + 1, i, none⟩ = false := fun i => Blk.frozen (FA.out.x.grown g9 (own_ne FA.out.own FA.out.x (by decide))) i)
        have F9 := Lib.hid (FA.out.appF (f := (⟨n, ⟨rk, rkey, rt, rval⟩⟩ : Fnd)) g9 (by unfold Fnd.cells Rec.cells; exact o9))
        clear g9 z9 o9 at9 hne
        go_roundw
        case rel => exact ⟨fs.length + 1, fs ++ [(⟨n, ⟨rk, rkey, rt, rval⟩⟩ : Fnd)], _, t2x, B2, by go_num, by omega, GS, F9⟩
        case measure => simp [intOf]; omega
    · have STOP := Lib.hid (grl_stopD hG.out hgo)
      go_upto_region 8 with fail
      go_cut [48] (fun v48 wx => v48 = .bool false ∧ wx = wr)
      case first =>
        by_cases hin : (i : Int) < v5
        · have t1 : decide ((i : Int) < v5) = true := decide_eq_true hin
          have t1b : ((i : Int) < v5) = True := eq_true hin
          cases bad
          · have t2 : decide ((i : Int) < 65) = false := decide_eq_false (fun h => hgo ⟨hin, rfl, by omega⟩)
            have t2b : ((i : Int) < 65) = False := eq_false (fun h => hgo ⟨hin, rfl, by omega⟩)
            have t2c : (i < 65) = False := eq_false (fun h => hgo ⟨hin, rfl, h⟩)
            go_wp2_with fail
            go_meet
            exact ⟨rfl, rfl⟩
          · go_wp2_with fail
            go_meet
            exact ⟨rfl, rfl⟩
        · have t1 : decide ((i : Int) < v5) = false := decide_eq_false hin
          have t1b : ((i : Int) < v5) = False := eq_false hin
          go_wp2_with fail
          go_meet
          exact ⟨rfl, rfl⟩
      case rest =>
        obtain ⟨rfl, rfl⟩ := hcut
        obtain ⟨fa, fc, rfl⟩ := own_form hF.out.own
        have GB := Lib.hid (And.intro hG.out.len hG.out.bds)
        have hi65' := Lib.hid hi65
        have cN := Lib.hid (in_num s a bad (w.heap.size + 1) wc HL.out hF.out.rd)
        clear hG hgo x0 x1 x2 k0
        go_wp2_with fail
        refine cN.out.use ?_
        intro w7 u7 a7 bad7 p7 k7 st7
        obtain ⟨v7, rfl, hb7, hs7⟩ := st7
        have S7 : Hid (NumS s a (be bad) v7 a7 (be bad7)) := Lib.hid hs7
        have E7 := Lib.hid (hF.out.on p7 k7)
        have HG0 : Hid (GRl prtText pGood (fun p : Prt => p.1.length ≤ 16) s v7 a7 (be bad7) 0 [] a7 (be bad7)) := Lib.hid (GRl.start (fun h => by have := S7.out.go h; omega))
        clear cN p7 k7 hs7 hb7 hF hi65
        go_wp2_with fail
        go_loopw [13, 14] (fun (x13 x14 : Value) (W : World) => ∃ (i : Nat) (ps : List Prt) (pv : Value) (a : Int) (bad : Bool), x13 = .int .i64 (i : Int) ∧ i ≤ 65 ∧ Hid (GRl prtText pGood (fun p : Prt => p.1.length ≤ 16) s v7 a7 (be bad7) i ps a (be bad)) ∧ Hid (DI4 w W s a bad v1 v2 v3 v4 (.slice fa fs.length fc) pv fs ps)) (fun (x13 x14 : Value) (W : World) => (65 - intOf x13).toNat)
        case atStart => exact ⟨0, [], _, a7, bad7, rfl, by omega, HG0, E7⟩
        case round =>
          clear HG0 E7
          obtain ⟨i2, ps, pv, a8, bad8, rfl, hi65, hG, hF⟩ := hrel
          have rd := hF.out.rd
          unfold inr at rd
          obtain ⟨k0, x0, x1, x2⟩ := rd.c3
          clear rd
          by_cases hgo : (i2 : Int) < v7 ∧ bad8 = false ∧ i2 < 65
          · obtain ⟨hin, hbad, h65⟩ := hgo
            subst hbad
            obtain rfl : i2 = ps.length := hG.out.len.symm
            have hlt := hF.out.lt
            have cT := Lib.hid (in_text s a8 false (w.heap.size + 1) wr HL.out hF.out.rd)
            have t1 : decide ((ps.length : Int) < v7) = true := decide_eq_true hin
            have t1b : ((ps.length : Int) < v7) = True := eq_true hin
            have t2 : decide ((ps.length : Int) < 65) = true := decide_eq_true (by omega)
            have t2b : ((ps.length : Int) < 65) = True := eq_true (by omega)
            have t2c : (ps.length < 65) = True := eq_true h65
            go_wp2_with fail
            refine cT.out.use ?_
            intro w1 u a1 bad1 p1 k1 st
            obtain ⟨tx, rfl, htl, hst⟩ := st
            have F1 := Lib.hid (hF.out.on p1 k1)
            have OWB : Hid (∀ b, pv.ownBlock = some b → b < w1.heap.size) := Lib.hid (fun b hb => (F1.out.ownp.lt b hb).2)
            have HST := Lib.hid hst
            clear cT p1 k1 hst k0 x0 x1 x2 t1 t1b t2 t2b t2c
            obtain ⟨w2, hw2⟩ : ∃ w2, w1.alloc (.cells #[.string (S tx), .int .i64 0] 23) = w2 := ⟨_, rfl⟩
            have hB12 : Below w1.heap.size w1 w2 := hw2 ▸ below_all (Below.refl _ _)
            have F2 := Lib.hid (F1.out.bel' hB12)
            have Q2 : Hid (Blk w2 w1.heap.size #[.string (S tx), .int .i64 0] 23) := Lib.hid (hw2 ▸ Blk.new w1 _ _)
            have hlt1 := F1.out.lt
            have cN := Lib.hid (in_num s a1 bad1 (w.heap.size + 1) w2 HL.out F2.out.rd)
            have HW2 := Lib.hid hw2
            clear hB12 F1 hw2
            go_wp2_with fail
            rw [HW2.out]
            clear HW2
            refine cN.out.use ?_
            intro w3 u3 a3 bad3 p3 k3 st3
            obtain ⟨n, rfl, hbn, hsn⟩ := st3
            have F3 := Lib.hid (F2.out.on p3 k3)
            have Q3 := Lib.hid (Q2.out.keptR k3 (by simp; omega))
            have ST : Hid (Step s prtText pGood a8 0 (tx, n) a3 (be bad3)) := Lib.hid (step_prt (HST.out.seq hsn))
            have KS : KeptR [w1.heap.size] w3 (w3.setCell ⟨w1.heap.size, 1, none⟩ (.int .i64 n)) := (KeptR.refl _ w3).set (by simp) 1 _
            have F4 := Lib.hid (F3.out.away KS (by simp; omega) (fun b hb hm => own_ne F3.out.own Q3.out (by decide) (by rw [hb, List.mem_singleton.1 hm])) (fun b hb hm => by have := OWB.out b hb; have := List.mem_singleton.1 hm; omega))
            have Q4 : Hid (Blk (w3.setCell ⟨w1.heap.size, 1, none⟩ (.int .i64 n)) w1.heap.size #[.string (S tx), .int .i64 n] 23) := Lib.hid (Q3.out.set 1 (.int .i64 n))
            obtain ⟨kf, f0, f1⟩ := Q3.out.c2
            have ff : ∀ i, w3.frozen? ⟨w1.heap.size, i, none⟩ = false := fun i => Blk.frozen Q3.out i
            clear cN p3 k3 hbn hsn KS HST
            go_upto_region 22 with fail
            clear kf f0 f1 ff
            generalize w3.setCell ⟨w1.heap.size, 1, none⟩ (.int .i64 n) = w5x at F4 Q4 ⊢
            obtain ⟨i0, hi, hz0, hz1, hz2⟩ := info_parts prtInfo
            obtain ⟨kf, f0, f1⟩ := Q4.out.c2
            obtain ⟨kx, g0, g1, g2, g3, g4, g5⟩ := arr6_cells F4.out.x
            obtain ⟨pa, pc, rfl⟩ := own_form F4.out.ownp
            have FA := Lib.hid (F4.out.bel' (below_all (o := .cells #[.string (S tx), .int .i64 n] 23) (Below.refl _ _)))
            have hne := news_prt (W := w5x) (tx, n) (s := w5x.heap.size) rfl
            unfold Prt.cells at hne
            dsimp only at hne
            have hws := F4.out.bel.size
            have GS := Lib.hid (hG.out.step hin (t := (tx, n)) ST.out htl)
            have OA := Lib.hid FA.out.ownp
            go_wp2_with (at_builtin; refine wpList_append_own_at _ rfl _ _ 36 rfl w.heap.size 23 i0 _ 2 24 Try.underlying36 hi hz0 hz1 hz2 rfl (by decide) _ _ _ rfl OA.out ⟨w5x.heap.size, 0, none⟩ 1 1 [.string (S tx), .int .i64 n] rfl rfl hne (by simp [Value.oneCell']) (by unfold maxLen; omega) (by omega) (by simp; omega) ?_; intro vv5 w9 o9 g9 z9 at9; obtain ⟨va9, vc9, rfl⟩ := own_form o9; obtain ⟨k9, r0x, r1x, r2x, r3x, r4x, r5x⟩ := arr6_cells (FA.out.x.grown g9 (own_ne FA.out.ownp FA.out.x (by decide))); have fz9 : ∀ i, w9.frozen? ⟨w.heap.size + 1 + 1, i, none⟩ = false := fun i => Blk.frozen (FA.out.x.grown g9 (own_ne FA.out.ownp FA.out.x (by decide))) i)
            have F9 := Lib.hid (FA.out.appP (f := (tx, n)) g9 (by unfold Prt.cells; exact o9))
            clear g9 z9 o9 at9 hne
            go_roundw
            case rel => exact ⟨ps.length + 1, ps ++ [(tx, n)], _, a3, bad3, by go_num, by omega, GS, F9⟩
            case measure => simp [intOf]; omega
          · have PSTOP := Lib.hid (grl_stopD hG.out hgo)
            go_upto_region 18 with fail
            go_cut [105] (fun v105 wx => v105 = .bool false ∧ wx = wr)
            case first =>
              by_cases hin : (i2 : Int) < v7
              · have t1 : decide ((i2 : Int) < v7) = true := decide_eq_true hin
                have t1b : ((i2 : Int) < v7) = True := eq_true hin
                cases bad8
                · have t2 : decide ((i2 : Int) < 65) = false := decide_eq_false (fun h => hgo ⟨hin, rfl, by omega⟩)
                  have t2b : ((i2 : Int) < 65) = False := eq_false (fun h => hgo ⟨hin, rfl, by omega⟩)
                  have t2c : (i2 < 65) = False := eq_false (fun h => hgo ⟨hin, rfl, h⟩)
                  go_wp2_with fail
                  go_meet
                  exact ⟨rfl, rfl⟩
                · go_wp2_with fail
                  go_meet
                  exact ⟨rfl, rfl⟩
              · have t1 : decide ((i2 : Int) < v7) = false := decide_eq_false hin
                have t1b : ((i2 : Int) < v7) = False := eq_false hin
                go_wp2_with fail
                go_meet
                exact ⟨rfl, rfl⟩
            case rest =>
              obtain ⟨rfl, rfl⟩ := hcut
              have full := Lib.hid (parse_fullD S1.out S2.out S3.out S4.out S5.out STOP.out S7.out PSTOP.out)
              have hlf : fs.length ≤ 65 := by rw [GB.out.1]; exact hi65'.out
              have hlp : ps.length ≤ 65 := by rw [hG.out.len]; exact hi65
              have RB : Hid (RepBd ⟨v1, v2, v3, v4, fs, ps⟩) := Lib.hid ⟨⟨by dsimp only; omega, GB.out.2⟩, ⟨by dsimp only; omega, fun p hp => by have := hG.out.bds p hp; unfold maxLen; omega⟩⟩
              obtain ⟨pa, pc, rfl⟩ := own_form hF.out.ownp
              have cP := Lib.hid (dreply4 ⟨v1, v2, v3, v4, fs, ps⟩ (.slice fa fs.length fc) (.slice pa ps.length pc) wc ⟨fnds_own hF.out.own, prts_own hF.out.ownp⟩ RB.out)
              have hcp : repPut ⟨v1, v2, v3, v4, fs, ps⟩ = if repCheck ⟨v1, v2, v3, v4, fs, ps⟩ = 0 then (repText ⟨v1, v2, v3, v4, fs, ps⟩, 0) else ([], repCheck ⟨v1, v2, v3, v4, fs, ps⟩) := rfl
              have HCP := Lib.hid hcp
              clear hcp
              have gno := Lib.hid (fun h => got_no (z := zrep) (c := (⟨v1, v2, v3, v4, fs, ps⟩ : Rep)) (e := be bad8) h full.out)
              have gok := Lib.hid (fun h1 h2 => got_ok (z := zrep) (c := (⟨v1, v2, v3, v4, fs, ps⟩ : Rep)) (e := be bad8) h1 h2 full.out)
              obtain ⟨X, hX⟩ : ∃ X, repCheck ⟨v1, v2, v3, v4, fs, ps⟩ = X := ⟨_, rfl⟩
              obtain ⟨L, hL⟩ : ∃ L, repText ⟨v1, v2, v3, v4, fs, ps⟩ = L := ⟨_, rfl⟩
              rw [hX, hL] at gno gok HCP
              rw [HCP.out] at cP
              clear hX hL HCP full
              have HFIN := Lib.hid (fun (W : World) n (hg : Got repCheck repText zrep s ⟨v1, v2, v3, v4, fs, ps⟩ n) (hk : KeptR [w.heap.size] wc W) => hR.out W ⟨v1, v2, v3, v4, fs, ps⟩ (.slice fa fs.length fc) (.slice pa ps.length pc) n ⟨hg, RepIn.keptR ⟨fnds_own hF.out.own, prts_own hF.out.ownp⟩ hk (fun b hb hm => own_ne hF.out.own hF.out.rs (by decide) (by rw [hb, List.mem_singleton.1 hm])) (fun b hb hm => own_ne hF.out.ownp hF.out.rs (by decide) (by rw [hb, List.mem_singleton.1 hm])), RB.out, fun b hb => by have := hF.out.own.lt b hb; have := hk.size; omega, fun b hb => by have := hF.out.ownp.lt b hb; have := hk.size; omega, hk.toBelow hF.out.bel (by simp)⟩)
              have HBAD := Lib.hid (fun (W : World) (hg : Got repCheck repText zrep s zrep 40) (hk : KeptR [w.heap.size] wc W) => hR.out W zrep (.slice none 0 0) (.slice none 0 0) 40 ⟨hg, zrep_in W, zrep_bd, by simp [Value.ownBlock], by simp [Value.ownBlock], hk.toBelow hF.out.bel (by simp)⟩)
              dsimp only [Rep.arr, zrep] at cP HFIN HBAD
              have HQ2 := Lib.hid hF.out.x
              have HP2 := Lib.hid hF.out.rd
              have HR2 := Lib.hid hF.out.rs
              obtain ⟨kq2, d0, d1, d2, d3, d4, d5⟩ := arr6_cells HQ2.out
              clear hG hF GB hgo x0 x1 x2 k0
              by_cases hz : X = 0
              · subst hz
                rw [if_pos rfl] at cP
                dsimp only at cP
                go_wp2_with fail
                refine cP.out.use ?_
                intro w9 b9
                have p9 := HP2.out.below b9
                unfold inr at p9
                obtain ⟨k9, m0, m1, m2⟩ := p9.c3
                have R9 := HR2.out.below b9
                have HR9 := Lib.hid R9
                obtain ⟨kr9, rr0, rr1, rr2, rr3, rr4, rr5⟩ := arr6_cells R9
                have fr9 : ∀ i, w9.frozen? ⟨w.heap.size, i, none⟩ = false := fun i => Blk.frozen R9 i
                obtain ⟨kq9, z0, z1, z2, z3, z4, z5⟩ := arr6_cells (HQ2.out.below b9)
                have K9 := Lib.hid ((KeptR.refl [w.heap.size] wc).bel b9)
                clear p9 R9 b9 d0 d1 d2 d3 d4 d5
                cases bad8
                · by_cases ht : L = s
                  · have g := Lib.hid (gok.out (by first | rfl | trivial) ht)
                    have t1 : (L != s) = false := by simp [ht]
                    have t5 : (L == s) = true := by simp [ht]
                    clear gno gok ht
                    go_wp2_with fail
                    refine bodyPost_ret (results_cell2r rfl _ _ w.heap.size 38 #[.int .i64 v1, .int .i64 v2, .int .i64 v3, .int .i64 v4, .slice fa fs.length fc, .slice pa ps.length pc] (0, 0) _ _ rfl rfl ?c1 Try.underlying38 rfl (by kernel_rfl)) rfl ?_
                    case c1 => exact (set6 HR9.out).1
                    exact HFIN.out _ 0 g.out (K9.out.trans (set6 HR9.out).2)
                  · have g := Lib.hid (gno.out (.inr (.inr ht)))
                    have t1 : (L != s) = true := by simpa using ht
                    have t5 : (L == s) = false := by simpa using ht
                    clear gno gok ht
                    go_wp2_with fail
                    refine bodyPost_ret (results_cell2r rfl _ _ w.heap.size 38 #[.int .i64 0, .int .i64 0, .int .i64 0, .int .i64 0, .slice none 0 0, .slice none 0 0] (0, 0) _ _ rfl rfl ?c2 Try.underlying38 rfl (by kernel_rfl)) rfl ?_
                    case c2 => exact (set6 HR9.out).1
                    exact HBAD.out _ g.out (K9.out.trans (set6 HR9.out).2)
                · have g := Lib.hid (gno.out (.inl (by simp [be])))
                  clear gno gok
                  go_wp2_with fail
                  refine bodyPost_ret (results_cell2r rfl _ _ w.heap.size 38 #[.int .i64 0, .int .i64 0, .int .i64 0, .int .i64 0, .slice none 0 0, .slice none 0 0] (0, 0) _ _ rfl rfl ?c3 Try.underlying38 rfl (by kernel_rfl)) rfl ?_
                  case c3 => exact (set6 HR9.out).1
                  exact HBAD.out _ g.out (K9.out.trans (set6 HR9.out).2)
              · have g := Lib.hid (gno.out (.inr (.inl hz)))
                rw [if_neg hz] at cP
                dsimp only at cP
                have t3 : ((X : Int) != 0) = true := by simpa using hz
                have t4 : ((X : Int) == 0) = false := by simpa using hz
                clear gno gok hz
                go_wp2_with fail
                refine cP.out.use ?_
                intro w9 b9
                have p9 := HP2.out.below b9
                unfold inr at p9
                obtain ⟨k9, m0, m1, m2⟩ := p9.c3
                have R9 := HR2.out.below b9
                have HR9 := Lib.hid R9
                obtain ⟨kr9, rr0, rr1, rr2, rr3, rr4, rr5⟩ := arr6_cells R9
                have fr9 : ∀ i, w9.frozen? ⟨w.heap.size, i, none⟩ = false := fun i => Blk.frozen R9 i
                have K9 := Lib.hid ((KeptR.refl [w.heap.size] wc).bel b9)
                clear p9 R9 b9 d0 d1 d2 d3 d4 d5
                cases bad8
                · go_wp2_with fail
                  refine bodyPost_ret (results_cell2r rfl _ _ w.heap.size 38 #[.int .i64 0, .int .i64 0, .int .i64 0, .int .i64 0, .slice none 0 0, .slice none 0 0] (0, 0) _ _ rfl rfl ?c4 Try.underlying38 rfl (by kernel_rfl)) rfl ?_
                  case c4 => exact (set6 HR9.out).1
                  exact HBAD.out _ g.out (K9.out.trans (set6 HR9.out).2)
                · go_wp2_with fail
                  refine bodyPost_ret (results_cell2r rfl _ _ w.heap.size 38 #[.int .i64 0, .int .i64 0, .int .i64 0, .int .i64 0, .slice none 0 0, .slice none 0 0] (0, 0) _ _ rfl rfl ?c5 Try.underlying38 rfl (by kernel_rfl)) rfl ?_
                  case c5 => exact (set6 HR9.out).1
                  exact HBAD.out _ g.out (K9.out.trans (set6 HR9.out).2)
end Go.Proofs.Ythiliodmbipikaa
