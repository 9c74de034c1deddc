/-
  Layer 4's statements: a reply cut short.
-/
import Derived.Test.YthiliodmbipikaaReqAr
import Derived.Test.YthiliodmbipikaaReqY
import Derived.Test.YthiliodmbipikaaRecS
import Derived.Deep.DeepCutAuto
set_option linter.unusedVariables false
set_option linter.unusedSimpArgs false
namespace Go.Proofs.Ythiliodmbipikaa
open Go.RowKit
attribute [local go_sem] ByteArray.extract_mk ByteArray.mk_append_mk

theorem results_cell1s {P : Program} {fn : Func} {p : Tmp} {ty : TypeId} (h : fn.results = #[.cell p ty]) (tmps : Array Value) (w : World) (g : Nat) (t : TypeId) (cs : Array Value) (fr : Nat × Nat) (d : TypeDesc)
    (hp : tmps.getD p undef = .pointer (some ⟨g, 0, none⟩)) (hg : w.heap[g]? = some (.cells cs t fr))
    (hu : P.underlying ty = some d) (hd : (match d with | .struct _ | .array _ _ => true | _ => false) = true) (hi : (P.info? ty).map (·.size) = some cs.size) :
    (results fn tmps).run P w = .ok (.agg cs) w := by
  have hp' : tmps[p]?.getD undef = .pointer (some ⟨g, 0, none⟩) := by simpa using hp
  simp [results, h, hp', asAddr, run_loadVar_row w g t ty cs fr d hg hu hd hi]
def cutF (f : Fnd) : Fnd := ⟨f.off, cutR f.r⟩
def cutP (p : Prt) : Prt := (p.1.take 40, p.2)
def cutRep (r : Rep) : Rep := { r with found := (r.found.take 70).map cutF, parts := (r.parts.take 70).map cutP }
/-- A reply handed back: it lies in new blocks. -/
structure NewRep (w w' : World) (r : Rep) (fv pv : Value) : Prop where
  rin : RepIn w' r fv pv
  own1 : ∀ b, fv.ownBlock = some b → w.heap.size ≤ b ∧ b < w'.heap.size
  own2 : ∀ b, pv.ownBlock = some b → w.heap.size ≤ b ∧ b < w'.heap.size
  bel : Below w.heap.size w w'
def CutRCall (r : Rep) (fv pv : Value) (w : World) : Prop :=
  Calls Try.prog 14 #[.agg (r.arr fv pv)] w fun x w' => ∃ fv' pv', x = .returned (.agg ((cutRep r).arr fv' pv')) ∧ NewRep w w' (cutRep r) fv' pv'
theorem CutRCall.intro {r : Rep} {fv pv : Value} {w : World} (h : ∀ R : Ending → World → Prop, Hid (∀ w' fv' pv', NewRep w w' (cutRep r) fv' pv' → R (.returned (.agg ((cutRep r).arr fv' pv'))) w') → Calls Try.prog 14 #[.agg (r.arr fv pv)] w R) : CutRCall r fv pv w :=
  h _ fun w' fv' pv' h1 => ⟨fv', pv', rfl, h1⟩
theorem CutRCall.use {r : Rep} {fv pv : Value} {w : World} {R : Ending → World → Prop} (h : CutRCall r fv pv w) (k : ∀ w' fv' pv', NewRep w w' (cutRep r) fv' pv' → R (.returned (.agg ((cutRep r).arr fv' pv'))) w') : Calls Try.prog 14 #[.agg (r.arr fv pv)] w R :=
  h.mono fun x w' ⟨fv', pv', he, h1⟩ => by subst he; exact k w' fv' pv' h1
/-- The blocks of CutReply. -/
structure CI4 (w0 W : World) (cs : Array Value) (ev off n gen : Int) (fv pv : Value) (fs : List Fnd) (ps : List Prt) : Prop where
  bx : Blk W w0.heap.size cs 38
  rs : Blk W (w0.heap.size + 1) #[.int .i64 0, .int .i64 0, .int .i64 0, .int .i64 0, .slice none 0 0, .slice none 0 0] 38
  pt : Blk W (w0.heap.size + 1 + 1) #[.int .i64 ev, .int .i64 off, .int .i64 n, .int .i64 gen, fv, pv] 38
  own : W.ownsRow w0.heap.size 70 5 fv fs.length (fs.flatMap Fnd.cells)
  ownp : W.ownsRow w0.heap.size 23 2 pv ps.length (ps.flatMap Prt.cells)
  below : Below w0.heap.size w0 W
theorem rows_apart4 {w : World} {B B' s s' n n' : Nat} {e e' : TypeId} {v v' : Value} {xs xs' : List Value} (h : w.ownsRow B e s v n xs) (k : w.ownsRow B' e' s' v' n' xs') (he : e ≠ e') : v.ownBlock = none ∨ v.ownBlock ≠ v'.ownBlock := by
  rcases h.2 with ⟨rfl, _⟩ | ⟨q, cap, cur, rfl, _, hq, _⟩
  · exact .inl rfl
  · refine .inr fun e1 => ?_
    rcases k.2 with ⟨rfl, _⟩ | ⟨q2, cap2, cur2, rfl, _, hq2, _⟩
    · simp [Value.ownBlock] at e1
    · simp only [Value.ownBlock, Option.some.injEq] at e1
      subst e1
      rw [hq] at hq2
      simp only [Option.some.injEq, Obj.cells.injEq] at hq2
      exact he hq2.2.1
section
variable {w0 W V : World} {cs : Array Value} {ev off n gen : Int} {fv pv fv' pv' : Value} {fs : List Fnd} {ps : List Prt}
theorem CI4.bel' (h : CI4 w0 W cs ev off n gen fv pv fs ps) (hb : Below W.heap.size W V) : CI4 w0 V cs ev off n gen fv pv fs ps :=
  ⟨h.bx.below hb, h.rs.below hb, h.pt.below hb, own_keptR h.own ((KeptR.refl [] W).bel hb) (by simp), own_keptR h.ownp ((KeptR.refl [] W).bel hb) (by simp), h.below.trans (hb.mono h.below.size)⟩
theorem CI4.appF {f : Fnd} (h : CI4 w0 W cs ev off n gen fv pv fs ps) (g : W.grownBy V fv.ownBlock) (o : V.ownsRow w0.heap.size 70 5 fv' (fs.length + 1) (fs.flatMap Fnd.cells ++ f.cells)) :
    CI4 w0 (V.setCell ⟨w0.heap.size + 1 + 1, 4, none⟩ fv') cs ev off n gen fv' pv (fs ++ [f]) ps := by
  have hx := h.pt.grown g (own_ne h.own h.pt (by decide))
  have B0 : Below w0.heap.size w0 V := ⟨g.os.trans h.below.os, g.tape.trans h.below.tape, g.output.trans h.below.output, Nat.le_trans h.below.size g.size, fun k hk => (g.block k (Nat.lt_of_lt_of_le hk h.below.size) (fun e1 => by have := (h.own.lt k e1.symm).1; omega)).trans (h.below.block k hk)⟩
  have G2 : V.grownBy (V.setCell ⟨w0.heap.size + 1 + 1, 4, none⟩ fv') (some (w0.heap.size + 1 + 1)) := grown_set (grown_refl _ _) _ _
  have op := h.ownp.kept g (rows_apart4 h.ownp h.own (by decide))
  refine ⟨(h.bx.grown g (own_ne h.own h.bx (by decide))).setOther (by simp; try omega) _, (h.rs.grown g (own_ne h.own h.rs (by decide))).setOther (by simp; try omega) _, hx.set 4 fv', ?_, op.kept G2 (.inr (Ne.symm (own_ne op hx (by decide)))), B0.setCell (p := ⟨w0.heap.size + 1 + 1, 4, none⟩) (by simp; try omega) _⟩
  have := o.kept G2 (.inr (Ne.symm (own_ne o hx (by decide))))
  simpa using this
theorem CI4.appP {f : Prt} (h : CI4 w0 W cs ev off n gen fv pv fs ps) (g : W.grownBy V pv.ownBlock) (o : V.ownsRow w0.heap.size 23 2 pv' (ps.length + 1) (ps.flatMap Prt.cells ++ f.cells)) :
    CI4 w0 (V.setCell ⟨w0.heap.size + 1 + 1, 5, none⟩ pv') cs ev off n gen fv pv' fs (ps ++ [f]) := by
  have hx := h.pt.grown g (own_ne h.ownp h.pt (by decide))
  have B0 : Below w0.heap.size w0 V := ⟨g.os.trans h.below.os, g.tape.trans h.below.tape, g.output.trans h.below.output, Nat.le_trans h.below.size g.size, fun k hk => (g.block k (Nat.lt_of_lt_of_le hk h.below.size) (fun e1 => by have := (h.ownp.lt k e1.symm).1; omega)).trans (h.below.block k hk)⟩
  have G2 : V.grownBy (V.setCell ⟨w0.heap.size + 1 + 1, 5, none⟩ pv') (some (w0.heap.size + 1 + 1)) := grown_set (grown_refl _ _) _ _
  have op := h.own.kept g (rows_apart4 h.own h.ownp (by decide))
  refine ⟨(h.bx.grown g (own_ne h.ownp h.bx (by decide))).setOther (by simp; try omega) _, (h.rs.grown g (own_ne h.ownp h.rs (by decide))).setOther (by simp; try omega) _, hx.set 5 pv', op.kept G2 (.inr (Ne.symm (own_ne op hx (by decide)))), ?_, B0.setCell (p := ⟨w0.heap.size + 1 + 1, 5, none⟩) (by simp; try omega) _⟩
  have := o.kept G2 (.inr (Ne.symm (own_ne o hx (by decide))))
  simpa using this
end
set_option maxHeartbeats 8000000 in
set_option maxRecDepth 100000 in
theorem cutr4 (r : Rep) (fv pv : Value) (w : World) (ha : RepArg w r fv pv) : CutRCall r fv pv w := by
  refine CutRCall.intro fun R hR => ?_
  obtain ⟨hf, hp, hfb, hpb, _⟩ := ha
  obtain ⟨ev, off, n, gen, found, parts⟩ := r
  dsimp only [cutRep, Rep.arr] at *
  obtain ⟨fa, fc, hfv⟩ := hf.form
  obtain ⟨pa, pc, hpv⟩ := hp.form
  have HF := Lib.hid (fun W (hW : Below w.heap.size w W) => hf.below hW)
  have HP := Lib.hid (fun W (hW : Below w.heap.size w W) => hp.below hW)
  have HFB := Lib.hid hfb.2
  have HPB := Lib.hid hpb.2
  subst hfv hpv
  clear hf hp hfb hpb
  have I0 : CI4 w (((w.alloc (.cells #[.int .i64 ev, .int .i64 off, .int .i64 n, .int .i64 gen, .slice fa found.length fc, .slice pa parts.length pc] 38)).alloc (.cells #[.int .i64 0, .int .i64 0, .int .i64 0, .int .i64 0, .slice none 0 0, .slice none 0 0] 38)).alloc (.cells #[.int .i64 ev, .int .i64 off, .int .i64 n, .int .i64 gen, .slice none 0 0, .slice none 0 0] 38)) #[.int .i64 ev, .int .i64 off, .int .i64 n, .int .i64 gen, .slice fa found.length fc, .slice pa parts.length pc] ev off n gen (.slice none 0 0) (.slice none 0 0) [] [] := by
    refine ⟨((Blk.new w _ _).alloc _).alloc _, ?_, ?_, World.ownsRow_nil _ _ _ _, World.ownsRow_nil _ _ _ _, below_all (below_all (below_all (Below.refl _ _)))⟩
    · have h := Blk.new (w.alloc (.cells #[.int .i64 ev, .int .i64 off, .int .i64 n, .int .i64 gen, .slice fa found.length fc, .slice pa parts.length pc] 38)) #[.int .i64 0, .int .i64 0, .int .i64 0, .int .i64 0, .slice none 0 0, .slice none 0 0] 38
      rw [World.size_alloc] at h
      exact h.alloc _
    · have h := Blk.new ((w.alloc (.cells #[.int .i64 ev, .int .i64 off, .int .i64 n, .int .i64 gen, .slice fa found.length fc, .slice pa parts.length pc] 38)).alloc (.cells #[.int .i64 0, .int .i64 0, .int .i64 0, .int .i64 0, .slice none 0 0, .slice none 0 0] 38)) #[.int .i64 ev, .int .i64 off, .int .i64 n, .int .i64 gen, .slice none 0 0, .slice none 0 0] 38
      rw [World.size_alloc, World.size_alloc] at h
      exact h
  have HI0 := Lib.hid I0
  clear I0
  go_enter Try.func14, Try.ntmps14
  go_wp2_with fail
  obtain ⟨i0, hi, hz0, hz1, hz2⟩ := info_parts fndInfo
  go_loopw [4, 5] (fun (v4 v5 : Value) (W : World) => ∃ (i : Nat) (fs : List Fnd) (fv' : Value), v4 = .int .i64 (i : Int) ∧ i ≤ found.length ∧ i ≤ 70 ∧ Hid (fs = (found.take i).map cutF) ∧ Hid (CI4 w W #[.int .i64 ev, .int .i64 off, .int .i64 n, .int .i64 gen, .slice fa found.length fc, .slice pa parts.length pc] ev off n gen fv' (.slice none 0 0) fs [])) (fun (v4 v5 : Value) (W : World) => (70 - intOf v4).toNat)
  case atStart => exact ⟨0, [], _, rfl, by omega, by omega, Lib.hid (by simp), HI0⟩
  case round =>
    clear HI0
    obtain ⟨i, fs, fv', rfl, hi1, hi2, hT, HI⟩ := hrel
    obtain ⟨kx, x0, x1, x2, x3, x4, x5⟩ := arr6_cells HI.out.bx
    obtain ⟨kp, p0, p1, p2, p3, p4, p5⟩ := arr6_cells HI.out.pt
    have hbs := HI.out.below.size
    have htl : fs.length = i := by rw [hT.out, List.length_map, List.length_take]; omega
    obtain rfl := htl
    by_cases h1 : fs.length < found.length
    · by_cases h2 : fs.length < 70
      · have t1 : decide ((fs.length : Int) < (found.length : Int)) = true := decide_eq_true (by omega)
        have t2 : decide ((fs.length : Int) < 70) = true := decide_eq_true (by omega)
        have t3 : ((fs.length : Int) < 70) = True := eq_true (by omega)
        have t4 : ((fs.length : Int) < (found.length : Int)) = True := eq_true (by omega)
        have t5 : (fs.length < 70) = True := eq_true h2
        have t6 : (fs.length < found.length) = True := eq_true h1
        obtain ⟨b, o, hae, hbl, hc⟩ : ∃ b o, fa = some ⟨b, o, none⟩ ∧ b < wr.heap.size ∧ FndAt wr b (o + fs.length * 5) found[fs.length] := by
          rcases HF.out wr HI.out.below with ⟨h0, _⟩ | ⟨b, o, cap, he, _, _, hl, hc⟩
          · rw [h0] at h1; simp at h1
          · simp only [Value.slice.injEq] at he
            exact ⟨b, o, he.1, hl, hc _ h1⟩
        have HSN : Hid (fs ++ [cutF found[fs.length]] = (found.take (fs.length + 1)).map cutF) := Lib.hid (by rw [List.take_succ_eq_append_getElem h1, List.map_append, ← hT.out]; rfl)
        obtain ⟨hsl, hsl2⟩ := HFB.out _ (List.getElem_mem h1)
        unfold maxLen at hsl hsl2
        generalize found[fs.length] = f at *
        obtain ⟨fo, fk, fkey, ft, fval⟩ := f
        obtain ⟨c0, c1, c2, c3, c4⟩ := hc
        dsimp only at c0 c1 c2 c3 c4 hsl hsl2
        subst hae
        clear hT
        have i1 : (0 : Int) ≤ (fs.length : Int) := by omega
        have i2 : (fs.length : Int) < (found.length : Int) := by omega
        go_upto_region 8 with fail
        go_cut [] (fun wx => wx = wr.alloc (.cells #[.int .i64 fo, .bool fk, .string (S (fkey.take 80)), .bool ft, .string (S fval)] 70))
        case' first =>
          have q1 : ((min (fkey.length : Int) 80).toNat) = min fkey.length 80 := by omega
          have q2 : ((0 : Int) ≤ min (fkey.length : Int) 80) = True := eq_true (by omega)
          have q3 : (min (fkey.length : Int) 80 ≤ (fkey.length : Int)) = True := eq_true (by omega)
          rcases Nat.lt_or_ge 80 fkey.length with a1 | a1
          · go_wp2_with fail
            go_meet
            simp only [Nat.min_eq_right (Nat.le_of_lt a1)]
          · go_wp2_with fail
            go_meet
            rw [List.take_of_length_le a1]
        subst hcut
        go_upto_region 9 with fail
        go_cut [] (fun wx => wx = wr.alloc (.cells #[.int .i64 fo, .bool fk, .string (S (fkey.take 80)), .bool ft, .string (S (fval.take 600))] 70))
        case' first =>
          have q1 : ((min (fval.length : Int) 600).toNat) = min fval.length 600 := by omega
          have q2 : ((0 : Int) ≤ min (fval.length : Int) 600) = True := eq_true (by omega)
          have q3 : (min (fval.length : Int) 600 ≤ (fval.length : Int)) = True := eq_true (by omega)
          rcases Nat.lt_or_ge 600 fval.length with a1 | a1
          · go_wp2_with fail
            go_meet
            simp only [Nat.min_eq_right (Nat.le_of_lt a1)]
          · go_wp2_with fail
            go_meet
            rw [List.take_of_length_le a1]
        subst hcut
        obtain ⟨va, vc, hvv⟩ := own_form HI.out.own
        subst hvv
        have FA := Lib.hid (HI.out.bel' (V := (wr.alloc (.cells #[.int .i64 fo, .bool fk, .string (S (fkey.take 80)), .bool ft, .string (S (fval.take 600))] 70)).alloc (.cells #[.int .i64 fo, .bool fk, .string (S (fkey.take 80)), .bool ft, .string (S (fval.take 600))] 70)) (below_all (below_all (Below.refl _ _))))
        have hne := news_fnd (W := wr.alloc (.cells #[.int .i64 fo, .bool fk, .string (S (fkey.take 80)), .bool ft, .string (S (fval.take 600))] 70)) (⟨fo, ⟨fk, fkey.take 80, ft, fval.take 600⟩⟩ : Fnd) (s := wr.heap.size + 1) (by simp)
        unfold Fnd.cells Rec.cells at hne
        dsimp only at hne
        have OA := Lib.hid FA.out.own
        clear c0 c1 c2 c3 c4
        go_wp2_with (at_builtin; refine wpList_append_own_at _ rfl _ _ 35 rfl w.heap.size 70 i0 _ 5 56 Try.underlying35 hi hz0 hz1 hz2 rfl (by decide) _ _ _ rfl OA.out ⟨wr.heap.size + 1, 0, none⟩ 1 1 [.int .i64 fo, .bool fk, .string (S (fkey.take 80)), .bool ft, .string (S (fval.take 600))] rfl rfl hne (by simp [Value.oneCell']) (by unfold maxLen; omega) (by omega) (by simp; omega) ?_; intro vv5 w9 o9 g9 z9 at9; obtain ⟨va9, vc9, rfl⟩ := own_form o9; obtain ⟨k9, r0x, r1x, r2x, r3x, r4x, r5x⟩ := arr6_cells (FA.out.pt.grown g9 (own_ne FA.out.own FA.out.pt (by decide))); have fz9 : ∀ i, w9.frozen? ⟨w.heap.size + 1 + 1, i, none⟩ = false := fun i => Blk.frozen (FA.out.pt.grown g9 (own_ne FA.out.own FA.out.pt (by decide))) i)
        have F9 := Lib.hid (FA.out.appF (f := (⟨fo, ⟨fk, fkey.take 80, ft, fval.take 600⟩⟩ : Fnd)) g9 (by unfold Fnd.cells Rec.cells; exact o9))
        clear g9 z9 o9 at9 hne
        go_roundw
        case rel => exact ⟨fs.length + 1, fs ++ [(⟨fo, ⟨fk, fkey.take 80, ft, fval.take 600⟩⟩ : Fnd)], _, by go_num, by omega, by omega, HSN, F9⟩
        case measure => simp [intOf]; omega
      · have t1 : decide ((fs.length : Int) < (found.length : Int)) = true := decide_eq_true (by omega)
        have t2 : decide ((fs.length : Int) < 70) = false := decide_eq_false (by omega)
        have t3 : ((fs.length : Int) < 70) = False := eq_false (by omega)
        have t4 : ((fs.length : Int) < (found.length : Int)) = True := eq_true (by omega)
        have t5 : (fs.length < 70) = False := eq_false h2
        have t6 : (fs.length < found.length) = True := eq_true h1
        go_upto_region 11 with fail
        have hT2 : Hid (fs = (found.take 70).map cutF) := Lib.hid (by have h := hT.out; rw [h]; congr 1; first | (rw [show fs.length = found.length by omega, List.take_length, List.take_of_length_le (by omega)]) | (rw [show fs.length = 70 by omega]))
        obtain ⟨va, vc, hvv⟩ := own_form HI.out.own
        subst hvv
        have HI2 := HI
        obtain ⟨i9, hi9, hz90, hz91, hz92⟩ := info_parts prtInfo
        clear hT x0 x1 x2 x3 x4 x5 p0 p1 p2 p3 p4 p5 kx kp HI t1 t2 t3 t4 t5 t6
        go_upto_region 12 with fail
        go_loopw [6, 7] (fun (v6 v7 : Value) (W : World) => ∃ (i : Nat) (ps : List Prt) (pv' : Value), v6 = .int .i64 (i : Int) ∧ i ≤ parts.length ∧ i ≤ 70 ∧ Hid (ps = (parts.take i).map cutP) ∧ Hid (CI4 w W #[.int .i64 ev, .int .i64 off, .int .i64 n, .int .i64 gen, .slice fa found.length fc, .slice pa parts.length pc] ev off n gen (.slice va fs.length vc) pv' fs ps)) (fun (v6 v7 : Value) (W : World) => (70 - intOf v6).toNat)
        case atStart => exact ⟨0, [], _, rfl, by omega, by omega, Lib.hid (by simp), HI2⟩
        case round =>
          clear HI2
          obtain ⟨i, ps, pv', rfl, hi1, hi2, hT, HI⟩ := hrel
          obtain ⟨kx, x0, x1, x2, x3, x4, x5⟩ := arr6_cells HI.out.bx
          obtain ⟨kp, p0, p1, p2, p3, p4, p5⟩ := arr6_cells HI.out.pt
          have hbs := HI.out.below.size
          have htl : ps.length = i := by rw [hT.out, List.length_map, List.length_take]; omega
          obtain rfl := htl
          by_cases h1 : ps.length < parts.length
          · by_cases h2 : ps.length < 70
            · have t1 : decide ((ps.length : Int) < (parts.length : Int)) = true := decide_eq_true (by omega)
              have t2 : decide ((ps.length : Int) < 70) = true := decide_eq_true (by omega)
              have t3 : ((ps.length : Int) < 70) = True := eq_true (by omega)
              have t4 : ((ps.length : Int) < (parts.length : Int)) = True := eq_true (by omega)
              have t5 : (ps.length < 70) = True := eq_true h2
              have t6 : (ps.length < parts.length) = True := eq_true h1
              obtain ⟨b, o, hae, hbl, hc⟩ : ∃ b o, pa = some ⟨b, o, none⟩ ∧ b < wr.heap.size ∧ PartAt wr b (o + ps.length * 2) parts[ps.length] := by
                rcases HP.out wr HI.out.below with ⟨h0, _⟩ | ⟨b, o, cap, he, _, hl, hc⟩
                · rw [h0] at h1; simp at h1
                · simp only [Value.slice.injEq] at he
                  exact ⟨b, o, he.1, hl, hc _ h1⟩
              have HSN : Hid (ps ++ [cutP parts[ps.length]] = (parts.take (ps.length + 1)).map cutP) := Lib.hid (by rw [List.take_succ_eq_append_getElem h1, List.map_append, ← hT.out]; rfl)
              have hsl := HPB.out _ (List.getElem_mem h1)
              unfold maxLen at hsl
              generalize parts[ps.length] = f at *
              obtain ⟨pt, pn⟩ := f
              obtain ⟨c0, c1⟩ := hc
              dsimp only at c0 c1 hsl
              subst hae
              clear hT
              have i1 : (0 : Int) ≤ (ps.length : Int) := by omega
              have i2 : (ps.length : Int) < (parts.length : Int) := by omega
              go_upto_region 15 with fail
              go_cut [] (fun wx => wx = wr.alloc (.cells #[.string (S (pt.take 40)), .int .i64 pn] 23))
              case' first =>
                have q1 : ((min (pt.length : Int) 40).toNat) = min pt.length 40 := by omega
                have q2 : ((0 : Int) ≤ min (pt.length : Int) 40) = True := eq_true (by omega)
                have q3 : (min (pt.length : Int) 40 ≤ (pt.length : Int)) = True := eq_true (by omega)
                rcases Nat.lt_or_ge 40 pt.length with a1 | a1
                · go_wp2_with fail
                  go_meet
                  simp only [Nat.min_eq_right (Nat.le_of_lt a1)]
                · go_wp2_with fail
                  go_meet
                  rw [List.take_of_length_le a1]
              subst hcut
              obtain ⟨xa, xc, hxx⟩ := own_form HI.out.ownp
              subst hxx
              have FA := Lib.hid (HI.out.bel' (V := (wr.alloc (.cells #[.string (S (pt.take 40)), .int .i64 pn] 23)).alloc (.cells #[.string (S (pt.take 40)), .int .i64 pn] 23)) (below_all (below_all (Below.refl _ _))))
              have hne := news_prt (W := wr.alloc (.cells #[.string (S (pt.take 40)), .int .i64 pn] 23)) (pt.take 40, pn) (s := wr.heap.size + 1) (by simp)
              unfold Prt.cells at hne
              dsimp only at hne
              have OA := Lib.hid FA.out.ownp
              clear c0 c1
              go_wp2_with (at_builtin; refine wpList_append_own_at _ rfl _ _ 36 rfl w.heap.size 23 i9 _ 2 24 Try.underlying36 hi9 hz90 hz91 hz92 rfl (by decide) _ _ _ rfl OA.out ⟨wr.heap.size + 1, 0, none⟩ 1 1 [.string (S (pt.take 40)), .int .i64 pn] rfl rfl hne (by simp [Value.oneCell']) (by unfold maxLen; omega) (by omega) (by simp; omega) ?_; intro vv5 w9 o9 g9 z9 at9; obtain ⟨va9, vc9, rfl⟩ := own_form o9; obtain ⟨k9, r0x, r1x, r2x, r3x, r4x, r5x⟩ := arr6_cells (FA.out.pt.grown g9 (own_ne FA.out.ownp FA.out.pt (by decide))); have fz9 : ∀ i, w9.frozen? ⟨w.heap.size + 1 + 1, i, none⟩ = false := fun i => Blk.frozen (FA.out.pt.grown g9 (own_ne FA.out.ownp FA.out.pt (by decide))) i)
              have F9 := Lib.hid (FA.out.appP (f := (pt.take 40, pn)) g9 (by unfold Prt.cells; exact o9))
              clear g9 z9 o9 at9 hne
              go_roundw
              case rel => exact ⟨ps.length + 1, ps ++ [(pt.take 40, pn)], _, by go_num, by omega, by omega, HSN, F9⟩
              case measure => simp [intOf]; omega
            · have t1 : decide ((ps.length : Int) < (parts.length : Int)) = true := decide_eq_true (by omega)
              have t2 : decide ((ps.length : Int) < 70) = false := decide_eq_false (by omega)
              have t3 : ((ps.length : Int) < 70) = False := eq_false (by omega)
              have t4 : ((ps.length : Int) < (parts.length : Int)) = True := eq_true (by omega)
              have t5 : (ps.length < 70) = False := eq_false h2
              have t6 : (ps.length < parts.length) = True := eq_true h1
              have hT3 : Hid (ps = (parts.take 70).map cutP) := Lib.hid (by have h := hT.out; rw [h]; congr 1; first | (rw [show ps.length = parts.length by omega, List.take_length, List.take_of_length_le (by omega)]) | (rw [show ps.length = 70 by omega]))
              obtain ⟨xa, xc, hxv⟩ := own_form HI.out.ownp
              subst hxv
              have RR := Lib.hid HI.out.rs
              have fr : ∀ i, wr.frozen? ⟨w.heap.size + 1, i, none⟩ = false := fun i => Blk.frozen RR.out i
              obtain ⟨kr, z0, z1, z2, z3, z4, z5⟩ := arr6_cells RR.out
              have FIN := Lib.hid (fun (W : World) (hk : KeptR [w.heap.size + 1] wr W) => hR.out W (.slice va fs.length vc) (.slice xa ps.length xc) ⟨⟨Eq.mp (congrArg (fun l => FndsIn W (Value.slice va fs.length vc) l) hT2.out) ((fnds_own HI.out.own).keptR hk (fun b hb hm => own_ne HI.out.own RR.out (by decide) (by rw [hb, List.mem_singleton.1 hm]))), Eq.mp (congrArg (fun l => PartsIn W (Value.slice xa ps.length xc) l) hT3.out) ((prts_own HI.out.ownp).keptR hk (fun b hb hm => own_ne HI.out.ownp RR.out (by decide) (by rw [hb, List.mem_singleton.1 hm])))⟩, fun b hb => by have h1 := HI.out.own.lt b hb; have h2 := hk.size; omega, fun b hb => by have h1 := HI.out.ownp.lt b hb; have h2 := hk.size; omega, hk.toBelow HI.out.below (by simp)⟩)
              go_wp2_with fail
              refine bodyPost_ret (results_cell1s rfl _ _ (w.heap.size + 1) 38 #[.int .i64 ev, .int .i64 off, .int .i64 n, .int .i64 gen, .slice va fs.length vc, .slice xa ps.length xc] (0, 0) _ rfl ?c1 Try.underlying38 rfl (by kernel_rfl)) rfl ?_
              case c1 => exact (set6 RR.out).1
              exact FIN.out _ (set6 RR.out).2
          · have t1 : decide ((ps.length : Int) < (parts.length : Int)) = false := decide_eq_false (by omega)
            have t4 : ((ps.length : Int) < (parts.length : Int)) = False := eq_false (by omega)
            have t6 : (ps.length < parts.length) = False := eq_false h1
            have hT3 : Hid (ps = (parts.take 70).map cutP) := Lib.hid (by have h := hT.out; rw [h]; congr 1; first | (rw [show ps.length = parts.length by omega, List.take_length, List.take_of_length_le (by omega)]) | (rw [show ps.length = 70 by omega]))
            obtain ⟨xa, xc, hxv⟩ := own_form HI.out.ownp
            subst hxv
            have RR := Lib.hid HI.out.rs
            have fr : ∀ i, wr.frozen? ⟨w.heap.size + 1, i, none⟩ = false := fun i => Blk.frozen RR.out i
            obtain ⟨kr, z0, z1, z2, z3, z4, z5⟩ := arr6_cells RR.out
            have FIN := Lib.hid (fun (W : World) (hk : KeptR [w.heap.size + 1] wr W) => hR.out W (.slice va fs.length vc) (.slice xa ps.length xc) ⟨⟨Eq.mp (congrArg (fun l => FndsIn W (Value.slice va fs.length vc) l) hT2.out) ((fnds_own HI.out.own).keptR hk (fun b hb hm => own_ne HI.out.own RR.out (by decide) (by rw [hb, List.mem_singleton.1 hm]))), Eq.mp (congrArg (fun l => PartsIn W (Value.slice xa ps.length xc) l) hT3.out) ((prts_own HI.out.ownp).keptR hk (fun b hb hm => own_ne HI.out.ownp RR.out (by decide) (by rw [hb, List.mem_singleton.1 hm])))⟩, fun b hb => by have h1 := HI.out.own.lt b hb; have h2 := hk.size; omega, fun b hb => by have h1 := HI.out.ownp.lt b hb; have h2 := hk.size; omega, hk.toBelow HI.out.below (by simp)⟩)
            go_wp2_with fail
            refine bodyPost_ret (results_cell1s rfl _ _ (w.heap.size + 1) 38 #[.int .i64 ev, .int .i64 off, .int .i64 n, .int .i64 gen, .slice va fs.length vc, .slice xa ps.length xc] (0, 0) _ rfl ?c2 Try.underlying38 rfl (by kernel_rfl)) rfl ?_
            case c2 => exact (set6 RR.out).1
            exact FIN.out _ (set6 RR.out).2
    · have t1 : decide ((fs.length : Int) < (found.length : Int)) = false := decide_eq_false (by omega)
      have t4 : ((fs.length : Int) < (found.length : Int)) = False := eq_false (by omega)
      have t6 : (fs.length < found.length) = False := eq_false h1
      go_upto_region 11 with fail
      have hT2 : Hid (fs = (found.take 70).map cutF) := Lib.hid (by have h := hT.out; rw [h]; congr 1; first | (rw [show fs.length = found.length by omega, List.take_length, List.take_of_length_le (by omega)]) | (rw [show fs.length = 70 by omega]))
      obtain ⟨va, vc, hvv⟩ := own_form HI.out.own
      subst hvv
      have HI2 := HI
      obtain ⟨i9, hi9, hz90, hz91, hz92⟩ := info_parts prtInfo
      clear hT x0 x1 x2 x3 x4 x5 p0 p1 p2 p3 p4 p5 kx kp HI t1 t4 t6
      go_upto_region 12 with fail
      go_loopw [6, 7] (fun (v6 v7 : Value) (W : World) => ∃ (i : Nat) (ps : List Prt) (pv' : Value), v6 = .int .i64 (i : Int) ∧ i ≤ parts.length ∧ i ≤ 70 ∧ Hid (ps = (parts.take i).map cutP) ∧ Hid (CI4 w W #[.int .i64 ev, .int .i64 off, .int .i64 n, .int .i64 gen, .slice fa found.length fc, .slice pa parts.length pc] ev off n gen (.slice va fs.length vc) pv' fs ps)) (fun (v6 v7 : Value) (W : World) => (70 - intOf v6).toNat)
      case atStart => exact ⟨0, [], _, rfl, by omega, by omega, Lib.hid (by simp), HI2⟩
      case round =>
        clear HI2
        obtain ⟨i, ps, pv', rfl, hi1, hi2, hT, HI⟩ := hrel
        obtain ⟨kx, x0, x1, x2, x3, x4, x5⟩ := arr6_cells HI.out.bx
        obtain ⟨kp, p0, p1, p2, p3, p4, p5⟩ := arr6_cells HI.out.pt
        have hbs := HI.out.below.size
        have htl : ps.length = i := by rw [hT.out, List.length_map, List.length_take]; omega
        obtain rfl := htl
        by_cases h1 : ps.length < parts.length
        · by_cases h2 : ps.length < 70
          · have t1 : decide ((ps.length : Int) < (parts.length : Int)) = true := decide_eq_true (by omega)
            have t2 : decide ((ps.length : Int) < 70) = true := decide_eq_true (by omega)
            have t3 : ((ps.length : Int) < 70) = True := eq_true (by omega)
            have t4 : ((ps.length : Int) < (parts.length : Int)) = True := eq_true (by omega)
            have t5 : (ps.length < 70) = True := eq_true h2
            have t6 : (ps.length < parts.length) = True := eq_true h1
            obtain ⟨b, o, hae, hbl, hc⟩ : ∃ b o, pa = some ⟨b, o, none⟩ ∧ b < wr.heap.size ∧ PartAt wr b (o + ps.length * 2) parts[ps.length] := by
              rcases HP.out wr HI.out.below with ⟨h0, _⟩ | ⟨b, o, cap, he, _, hl, hc⟩
              · rw [h0] at h1; simp at h1
              · simp only [Value.slice.injEq] at he
                exact ⟨b, o, he.1, hl, hc _ h1⟩
            have HSN : Hid (ps ++ [cutP parts[ps.length]] = (parts.take (ps.length + 1)).map cutP) := Lib.hid (by rw [List.take_succ_eq_append_getElem h1, List.map_append, ← hT.out]; rfl)
            have hsl := HPB.out _ (List.getElem_mem h1)
            unfold maxLen at hsl
            generalize parts[ps.length] = f at *
            obtain ⟨pt, pn⟩ := f
            obtain ⟨c0, c1⟩ := hc
            dsimp only at c0 c1 hsl
            subst hae
            clear hT
            have i1 : (0 : Int) ≤ (ps.length : Int) := by omega
            have i2 : (ps.length : Int) < (parts.length : Int) := by omega
            go_upto_region 15 with fail
            go_cut [] (fun wx => wx = wr.alloc (.cells #[.string (S (pt.take 40)), .int .i64 pn] 23))
            case' first =>
              have q1 : ((min (pt.length : Int) 40).toNat) = min pt.length 40 := by omega
              have q2 : ((0 : Int) ≤ min (pt.length : Int) 40) = True := eq_true (by omega)
              have q3 : (min (pt.length : Int) 40 ≤ (pt.length : Int)) = True := eq_true (by omega)
              rcases Nat.lt_or_ge 40 pt.length with a1 | a1
              · go_wp2_with fail
                go_meet
                simp only [Nat.min_eq_right (Nat.le_of_lt a1)]
              · go_wp2_with fail
                go_meet
                rw [List.take_of_length_le a1]
            subst hcut
            obtain ⟨xa, xc, hxx⟩ := own_form HI.out.ownp
            subst hxx
            have FA := Lib.hid (HI.out.bel' (V := (wr.alloc (.cells #[.string (S (pt.take 40)), .int .i64 pn] 23)).alloc (.cells #[.string (S (pt.take 40)), .int .i64 pn] 23)) (below_all (below_all (Below.refl _ _))))
            have hne := news_prt (W := wr.alloc (.cells #[.string (S (pt.take 40)), .int .i64 pn] 23)) (pt.take 40, pn) (s := wr.heap.size + 1) (by simp)
            unfold Prt.cells at hne
            dsimp only at hne
            have OA := Lib.hid FA.out.ownp
            clear c0 c1
            go_wp2_with (at_builtin; refine wpList_append_own_at _ rfl _ _ 36 rfl w.heap.size 23 i9 _ 2 24 Try.underlying36 hi9 hz90 hz91 hz92 rfl (by decide) _ _ _ rfl OA.out ⟨wr.heap.size + 1, 0, none⟩ 1 1 [.string (S (pt.take 40)), .int .i64 pn] rfl rfl hne (by simp [Value.oneCell']) (by unfold maxLen; omega) (by omega) (by simp; omega) ?_; intro vv5 w9 o9 g9 z9 at9; obtain ⟨va9, vc9, rfl⟩ := own_form o9; obtain ⟨k9, r0x, r1x, r2x, r3x, r4x, r5x⟩ := arr6_cells (FA.out.pt.grown g9 (own_ne FA.out.ownp FA.out.pt (by decide))); have fz9 : ∀ i, w9.frozen? ⟨w.heap.size + 1 + 1, i, none⟩ = false := fun i => Blk.frozen (FA.out.pt.grown g9 (own_ne FA.out.ownp FA.out.pt (by decide))) i)
            have F9 := Lib.hid (FA.out.appP (f := (pt.take 40, pn)) g9 (by unfold Prt.cells; exact o9))
            clear g9 z9 o9 at9 hne
            go_roundw
            case rel => exact ⟨ps.length + 1, ps ++ [(pt.take 40, pn)], _, by go_num, by omega, by omega, HSN, F9⟩
            case measure => simp [intOf]; omega
          · have t1 : decide ((ps.length : Int) < (parts.length : Int)) = true := decide_eq_true (by omega)
            have t2 : decide ((ps.length : Int) < 70) = false := decide_eq_false (by omega)
            have t3 : ((ps.length : Int) < 70) = False := eq_false (by omega)
            have t4 : ((ps.length : Int) < (parts.length : Int)) = True := eq_true (by omega)
            have t5 : (ps.length < 70) = False := eq_false h2
            have t6 : (ps.length < parts.length) = True := eq_true h1
            have hT3 : Hid (ps = (parts.take 70).map cutP) := Lib.hid (by have h := hT.out; rw [h]; congr 1; first | (rw [show ps.length = parts.length by omega, List.take_length, List.take_of_length_le (by omega)]) | (rw [show ps.length = 70 by omega]))
            obtain ⟨xa, xc, hxv⟩ := own_form HI.out.ownp
            subst hxv
            have RR := Lib.hid HI.out.rs
            have fr : ∀ i, wr.frozen? ⟨w.heap.size + 1, i, none⟩ = false := fun i => Blk.frozen RR.out i
            obtain ⟨kr, z0, z1, z2, z3, z4, z5⟩ := arr6_cells RR.out
            have FIN := Lib.hid (fun (W : World) (hk : KeptR [w.heap.size + 1] wr W) => hR.out W (.slice va fs.length vc) (.slice xa ps.length xc) ⟨⟨Eq.mp (congrArg (fun l => FndsIn W (Value.slice va fs.length vc) l) hT2.out) ((fnds_own HI.out.own).keptR hk (fun b hb hm => own_ne HI.out.own RR.out (by decide) (by rw [hb, List.mem_singleton.1 hm]))), Eq.mp (congrArg (fun l => PartsIn W (Value.slice xa ps.length xc) l) hT3.out) ((prts_own HI.out.ownp).keptR hk (fun b hb hm => own_ne HI.out.ownp RR.out (by decide) (by rw [hb, List.mem_singleton.1 hm])))⟩, fun b hb => by have h1 := HI.out.own.lt b hb; have h2 := hk.size; omega, fun b hb => by have h1 := HI.out.ownp.lt b hb; have h2 := hk.size; omega, hk.toBelow HI.out.below (by simp)⟩)
            go_wp2_with fail
            refine bodyPost_ret (results_cell1s rfl _ _ (w.heap.size + 1) 38 #[.int .i64 ev, .int .i64 off, .int .i64 n, .int .i64 gen, .slice va fs.length vc, .slice xa ps.length xc] (0, 0) _ rfl ?c3 Try.underlying38 rfl (by kernel_rfl)) rfl ?_
            case c3 => exact (set6 RR.out).1
            exact FIN.out _ (set6 RR.out).2
        · have t1 : decide ((ps.length : Int) < (parts.length : Int)) = false := decide_eq_false (by omega)
          have t4 : ((ps.length : Int) < (parts.length : Int)) = False := eq_false (by omega)
          have t6 : (ps.length < parts.length) = False := eq_false h1
          have hT3 : Hid (ps = (parts.take 70).map cutP) := Lib.hid (by have h := hT.out; rw [h]; congr 1; first | (rw [show ps.length = parts.length by omega, List.take_length, List.take_of_length_le (by omega)]) | (rw [show ps.length = 70 by omega]))
          obtain ⟨xa, xc, hxv⟩ := own_form HI.out.ownp
          subst hxv
          have RR := Lib.hid HI.out.rs
          have fr : ∀ i, wr.frozen? ⟨w.heap.size + 1, i, none⟩ = false := fun i => Blk.frozen RR.out i
          obtain ⟨kr, z0, z1, z2, z3, z4, z5⟩ := arr6_cells RR.out
          have FIN := Lib.hid (fun (W : World) (hk : KeptR [w.heap.size + 1] wr W) => hR.out W (.slice va fs.length vc) (.slice xa ps.length xc) ⟨⟨Eq.mp (congrArg (fun l => FndsIn W (Value.slice va fs.length vc) l) hT2.out) ((fnds_own HI.out.own).keptR hk (fun b hb hm => own_ne HI.out.own RR.out (by decide) (by rw [hb, List.mem_singleton.1 hm]))), Eq.mp (congrArg (fun l => PartsIn W (Value.slice xa ps.length xc) l) hT3.out) ((prts_own HI.out.ownp).keptR hk (fun b hb hm => own_ne HI.out.ownp RR.out (by decide) (by rw [hb, List.mem_singleton.1 hm])))⟩, fun b hb => by have h1 := HI.out.own.lt b hb; have h2 := hk.size; omega, fun b hb => by have h1 := HI.out.ownp.lt b hb; have h2 := hk.size; omega, hk.toBelow HI.out.below (by simp)⟩)
          go_wp2_with fail
          refine bodyPost_ret (results_cell1s rfl _ _ (w.heap.size + 1) 38 #[.int .i64 ev, .int .i64 off, .int .i64 n, .int .i64 gen, .slice va fs.length vc, .slice xa ps.length xc] (0, 0) _ rfl ?c4 Try.underlying38 rfl (by kernel_rfl)) rfl ?_
          case c4 => exact (set6 RR.out).1
          exact FIN.out _ (set6 RR.out).2
end Go.Proofs.Ythiliodmbipikaa
