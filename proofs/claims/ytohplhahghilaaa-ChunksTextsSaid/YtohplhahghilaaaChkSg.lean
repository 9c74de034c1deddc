import Derived.Test.YtohplhahghilaaaChkD
import Derived.Test.YtohplhahghilaaaSegR
/-
  Layer 7: the segment that a statement can hold.
-/
set_option linter.unusedVariables false
set_option linter.unusedSimpArgs false
namespace Go.Proofs.Ytohplhahghilaaa
open Go.RowKit
attribute [local go_sem] ByteArray.extract_mk ByteArray.mk_append_mk

def cutF (f : Fnd) : Fnd := ⟨f.off, cutR f.r⟩
def cutFs (l : List Fnd) : List Fnd := (l.take 70).map cutF
/-- A segment handed back, its records in a row of the caller's own. -/
def SegV (f : FuncId) (args : Array Value) (w : World) (base next : Int) (l : List Fnd) : Prop :=
  Calls Try.prog f args w fun x w' => ∃ v, x = .returned (.agg #[.int .i64 base, .int .i64 next, v]) ∧ w'.ownsRow w.heap.size 70 5 v l.length (l.flatMap Fnd.cells) ∧ Below w.heap.size w w'
theorem SegV.intro {f : FuncId} {args : Array Value} {w : World} {base next : Int} {l : List Fnd}
    (h : ∀ R : Ending → World → Prop, Hid (∀ v w', w'.ownsRow w.heap.size 70 5 v l.length (l.flatMap Fnd.cells) → Below w.heap.size w w' → R (.returned (.agg #[.int .i64 base, .int .i64 next, v])) w') → Calls Try.prog f args w R) : SegV f args w base next l :=
  h _ fun v w' h1 h2 => ⟨v, rfl, h1, h2⟩
theorem SegV.use {f : FuncId} {args : Array Value} {w : World} {base next : Int} {l : List Fnd} {R : Ending → World → Prop} (h : SegV f args w base next l)
    (k : ∀ v w', w'.ownsRow w.heap.size 70 5 v l.length (l.flatMap Fnd.cells) → Below w.heap.size w w' → R (.returned (.agg #[.int .i64 base, .int .i64 next, v])) w') : Calls Try.prog f args w R :=
  h.mono fun x w' ⟨v, he, h1, h2⟩ => by subst he; exact k v w' h1 h2
theorem RecCall.use {f : FuncId} {args : Array Value} {w : World} {r : Rec} {R : Ending → World → Prop} (h : RecCall f args w r)
    (k : ∀ g cap w', g < w'.heap.size → 1 ≤ cap → RecAt w' g 0 r → Below w.heap.size w w' → R (.returned (.slice (some ⟨g, 0, none⟩) 1 cap)) w') : Calls Try.prog f args w R :=
  h.mono fun x w' ⟨g, cap, he, h1, h2, h3, h4⟩ => by subst he; exact k g cap w' h1 h4 h2 h3
/-- While it is made. -/
structure G7 (w : World) (base next : Int) (v lv : Value) (m : List Fnd) (W : World) : Prop where
  arg : Blk W w.heap.size #[.int .i64 base, .int .i64 next, v] 24
  res : Blk W (w.heap.size + 1) #[.int .i64 0, .int .i64 0, .slice none 0 0] 24
  out : Blk W (w.heap.size + 2) #[.int .i64 base, .int .i64 next, lv] 24
  own : W.ownsRow w.heap.size 70 5 lv m.length (m.flatMap Fnd.cells)
  bel : Below w.heap.size w W
section
variable {w W W' : World} {base next : Int} {v lv lv' : Value} {m : List Fnd}
theorem G7.below (h : G7 w base next v lv m W) (b : Below W.heap.size W W') : G7 w base next v lv m W' :=
  ⟨h.arg.below b, h.res.below b, h.out.below b, own_keptBy h.own (Kept.ofBelow b []) (away_nil _), below_any (Nat.le_refl _) h.bel b⟩
theorem G7.app {f : Fnd} (h : G7 w base next v lv m W) (o : W'.ownsRow w.heap.size 70 5 lv' (m.length + 1) (m.flatMap Fnd.cells ++ f.cells)) (g : W.grownBy W' lv.ownBlock) : G7 w base next v lv' (m ++ [f]) (W'.setCell ⟨w.heap.size + 2, 2, none⟩ lv') := by
  have h1 := h.out.grown g (own_ne h.own h.out (by decide))
  have g2 : W'.grownBy (W'.setCell ⟨w.heap.size + 2, 2, none⟩ lv') (some (w.heap.size + 2)) := grown_set (grown_refl _ _) _ _
  refine ⟨?_, ?_, h1.set 2 lv', ?_, ?_⟩
  · exact (h.arg.grown g (own_ne h.own h.arg (by decide))).grown g2 (by simp)
  · exact (h.res.grown g (own_ne h.own h.res (by decide))).grown g2 (by simp)
  · have := o.kept g2 (.inr (Ne.symm (own_ne o h1 (by decide))))
    simpa using this
  · exact (Kept.below h.bel (Kept.ofGrown g) (by intro x hx; simp only [Option.mem_toList] at hx; exact (h.own.lt x hx).1) h.bel.size).setCell (p := ⟨w.heap.size + 2, 2, none⟩) (show w.heap.size ≤ w.heap.size + 2 by omega) _
end
theorem cutF_bd {l : List Fnd} (h : ∀ f ∈ l, RecBd f.r) : ∀ f ∈ cutFs l, RecBd f.r := by
  intro f hf
  simp only [cutFs, List.mem_map] at hf
  obtain ⟨g, hg, rfl⟩ := hf
  obtain ⟨h1, h2⟩ := h g (List.mem_of_mem_take hg)
  unfold maxLen at h1 h2
  constructor <;> simp [cutF, cutR, maxLen] <;> omega
theorem cutFs_take (l : List Fnd) {k : Nat} (hk : k < l.length) : (l.take (k + 1)).map cutF = (l.take k).map cutF ++ [cutF l[k]] := by
  rw [List.take_succ_eq_append_getElem hk, List.map_append]; rfl

set_option maxHeartbeats 4000000 in
set_option maxRecDepth 100000 in
theorem seg7 (base next : Int) (v : Value) (l : List Fnd) (w : World) (hv : FndsIn w v l) (hbd : ∀ f ∈ l, RecBd f.r) (hll : l.length ≤ 9223372036854775807) :
    SegV 10 #[.agg #[.int .i64 base, .int .i64 next, v]] w base next (cutFs l) := by
  refine SegV.intro fun R hR => ?_
  obtain ⟨i0, hi, hz0, hz1, hz2⟩ := info_parts fndInfo
  have cR := fun (r : Rec) (b : Nat) (W : World) hlt hr hb => records5 r b 1 W hlt (by omega) hr hb
  have CR := Lib.hid cR
  have HB := Lib.hid hbd
  have G0 : G7 w base next v (.slice none 0 0) ((l.take 0).map cutF) (((w.alloc (.cells #[.int .i64 base, .int .i64 next, v] 24)).alloc (.cells #[.int .i64 0, .int .i64 0, .slice none 0 0] 24)).alloc (.cells #[.int .i64 base, .int .i64 next, .slice none 0 0] 24)) := by
    refine ⟨((Blk.new _ _ _).alloc _).alloc _, ?_, ?_, World.ownsRow_nil _ _ _ _, below_all (below_all (below_all (Below.refl _ _)))⟩
    · have h := (Blk.new (w.alloc (.cells #[.int .i64 base, .int .i64 next, v] 24)) #[.int .i64 0, .int .i64 0, .slice none 0 0] 24).alloc (.cells #[.int .i64 base, .int .i64 next, .slice none 0 0] 24)
      rwa [World.size_alloc] at h
    · have h := Blk.new ((w.alloc (.cells #[.int .i64 base, .int .i64 next, v] 24)).alloc (.cells #[.int .i64 0, .int .i64 0, .slice none 0 0] 24)) #[.int .i64 base, .int .i64 next, .slice none 0 0] 24
      rwa [World.size_alloc, World.size_alloc] at h
  have HV := Lib.hid hv
  obtain ⟨a, cap, rfl⟩ := hv.form
  clear cR hbd hv
  go_enter Try.func10, Try.ntmps10
  go_wp2_with fail
  go_loopw [4, 5] (fun (v4 v5 : Value) (W : World) => ∃ (k : Nat) (lv : Value), k ≤ l.length ∧ k ≤ 70 ∧ v4 = .int .i64 (k : Int) ∧ G7 w base next (.slice a l.length cap) lv ((l.take k).map cutF) W) (fun (v4 v5 : Value) (W : World) => (70 - intOf v4).toNat)
  case atStart => exact ⟨0, .slice none 0 0, by omega, by omega, rfl, G0⟩
  case round =>
    obtain ⟨k, lv, hkl, hk7, rfl, hG⟩ := hrel
    have HG := Lib.hid hG
    obtain ⟨ka, a0, a1, a2⟩ := hG.arg.c3
    obtain ⟨ko, o0, o1, o2⟩ := hG.out.c3
    by_cases h1 : (k : Int) < (l.length : Int)
    · by_cases h2 : (k : Int) < 70
      · have hin : FndsIn wr (.slice a l.length cap) l := HV.out.below hG.bel
        rcases hin with ⟨h, _⟩ | ⟨b, off, cap2, hsl, hcap2, hne, hlt, hc⟩
        · rw [h] at h1; simp at h1; omega
        simp only [Value.slice.injEq, true_and] at hsl
        obtain ⟨rfl, rfl⟩ := hsl
        have hkl2 : k < l.length := by omega
        have hfa := hc k hkl2
        have hbk := HB.out _ (List.getElem_mem hkl2)
        have htk := Lib.hid (cutFs_take l hkl2)
        obtain ⟨f, hf⟩ : ∃ f, l[k] = f := ⟨_, rfl⟩
        rw [hf] at hfa hbk htk
        obtain ⟨x0, x1, x2, x3, x4⟩ := hfa
        have hj1 : (0 : Int) ≤ (k : Int) := by omega
        clear hc hf hG
        have c := CR.out f.r wr.heap.size (wr.alloc (.cells #[.bool f.r.hk, .string (S f.r.key), .bool f.r.tb, .string (S f.r.val)] 68)) (by simp) (by
          have h := Blk.new wr #[.bool f.r.hk, .string (S f.r.key), .bool f.r.tb, .string (S f.r.val)] 68
          exact ⟨h.cell 0, h.cell 1, h.cell 2, h.cell 3⟩) hbk
        have c := Lib.hid c
        go_wp2_with fail
        refine c.out.use ?_
        intro g gc w2 hg2 hgc hr2 hb2
        have b2 := below_any (Nat.le_refl _) (below_all (o := .cells #[.bool f.r.hk, .string (S f.r.key), .bool f.r.tb, .string (S f.r.val)] 68) (Below.refl wr.heap.size wr)) hb2
        have P2 := HG.out.below b2
        obtain ⟨q, hq⟩ : ∃ q : Fnd, cutF f = q := ⟨_, rfl⟩
        have q0 : f.off = q.off := by rw [← hq]; rfl
        have q1 : cutR f.r = q.r := by rw [← hq]; rfl
        rw [q1] at hr2
        rw [q0] at x0
        rw [hq] at htk
        obtain ⟨y0, y1, y2, y3⟩ := hr2
        have z0 := (b2.cell (p := ⟨b, off + k * 5, none⟩) hlt).trans x0
        obtain ⟨ka2, c0, c1, c2⟩ := P2.arg.c3
        obtain ⟨ko2, d0, d1, d2⟩ := P2.out.c3
        obtain ⟨la, lc, rfl⟩ := own_form P2.own
        have fz : ∀ i, w2.frozen? ⟨w.heap.size + 2, i, none⟩ = false := fun i => Blk.frozen P2.out i
        have hml : ((l.take k).map cutF).length ≤ 70 := by rw [List.length_map, List.length_take]; omega
        have HM := Lib.hid htk
        have P3 := P2.below (Below.refl w2.heap.size w2).drew
        have P3 := P3.below (below_all (o := .cells q.cells.toArray 70) (Below.refl w2.heap.size w2.drew))
        clear c hb2 b2 x0 x1 x2 x3 x4 a0 a1 a2 o0 o1 o2 HG hbk q0 q1 hq CR HB htk
        generalize hmm : (l.take k).map cutF = m at *
        have i1 : (1 : Int) ≤ (gc : Int) := by omega
        have hbs : w.heap.size ≤ w2.heap.size := P2.bel.size
        go_wp2_with fail
        go_region_law (refine step_append_lies _ (by rfl) _ _ _ (by rfl) w.heap.size 70 i0 _ 5 56 Try.underlying22 hi hz0 hz1 hz2 rfl (by omega) (.slice la m.length lc) m.length (m.flatMap Fnd.cells) (by simp [Act.eval, Act.put]) P3.own ⟨w2.heap.size, 0, none⟩ 1 1 q.cells (by simp [Act.eval, Act.put]) rfl (news_fnd q (by first | rfl | simp)) (by simp [Value.oneCell', Fnd.cells, Rec.cells]) (by omega) (by unfold maxLen; omega) (by omega) (by simp; omega) (w2.heap.size + 1) (by simp) ?_; intro g2 cap2 w5 hown5 hgrow5 hat5 hlt5; have bb2 := P3.out.grown hgrow5 (own_ne P3.own P3.out (by decide)); obtain ⟨kk2, rr0, rr1, rr2⟩ := bb2.c3; have ff2 := fun i => Blk.frozen bb2 i)
        all_goals go_wp2_with fail
        all_goals go_roundw
        all_goals (first | exact ⟨k + 1, _, by omega, by omega, by go_num, by rw [HM.out]; exact P3.app hown5 hgrow5⟩ | (simp [intOf]; done) | (simp [intOf]; omega))
      · have h2 : k = 70 := by omega
        have hm : (l.take k).map cutF = cutFs l := by rw [h2]; rfl
        obtain ⟨c, hc⟩ : ∃ c, cutFs l = c := ⟨_, rfl⟩
        rw [hm, hc] at hG
        rw [hc] at hR
        clear HG
        have HG := Lib.hid hG
        clear hG hm hkl hk7 hc
        subst h2
        obtain ⟨la, lc, rfl⟩ := own_form HG.out.own
        obtain ⟨ku, u0, u1, u2⟩ := HG.out.res.c3
        have fz : ∀ i, wr.frozen? ⟨w.heap.size + 1, i, none⟩ = false := fun i => Blk.frozen HG.out.res i
        go_wp2_with fail
        refine bodyPost_ret (results_cell_row rfl _ _ (w.heap.size + 1) 24 #[.int .i64 base, .int .i64 next, .slice la c.length lc] (0, 0) _ rfl ?c1 Try.underlying24 rfl (by kernel_rfl)) rfl ?_
        case c1 => exact ((HG.out.res.set 0 (.int .i64 base)).set 1 (.int .i64 next)).set 2 (.slice la c.length lc)
        exact hR.out _ _ (HG.out.own.kept (grown_set (grown_set (grown_set (grown_refl _ _) _ _) _ _) _ _) (.inr (Ne.symm (own_ne HG.out.own HG.out.res (by decide))))) (((HG.out.bel.setCell (p := ⟨w.heap.size + 1, 0, none⟩) (show w.heap.size ≤ w.heap.size + 1 by omega) _).setCell (p := ⟨w.heap.size + 1, 1, none⟩) (show w.heap.size ≤ w.heap.size + 1 by omega) _).setCell (p := ⟨w.heap.size + 1, 2, none⟩) (show w.heap.size ≤ w.heap.size + 1 by omega) _)
    · have h3 : k = l.length := by omega
      have hm : (l.take k).map cutF = cutFs l := by unfold cutFs; rw [List.take_of_length_le (by omega), List.take_of_length_le (by omega)]
      obtain ⟨c, hc⟩ : ∃ c, cutFs l = c := ⟨_, rfl⟩
      rw [hm, hc] at hG
      rw [hc] at hR
      clear HG
      have HG := Lib.hid hG
      clear hG hm hkl hk7 hc
      subst h3
      obtain ⟨la, lc, rfl⟩ := own_form HG.out.own
      obtain ⟨ku, u0, u1, u2⟩ := HG.out.res.c3
      have fz : ∀ i, wr.frozen? ⟨w.heap.size + 1, i, none⟩ = false := fun i => Blk.frozen HG.out.res i
      go_wp2_with fail
      refine bodyPost_ret (results_cell_row rfl _ _ (w.heap.size + 1) 24 #[.int .i64 base, .int .i64 next, .slice la c.length lc] (0, 0) _ rfl ?c2 Try.underlying24 rfl (by kernel_rfl)) rfl ?_
      case c2 => exact ((HG.out.res.set 0 (.int .i64 base)).set 1 (.int .i64 next)).set 2 (.slice la c.length lc)
      exact hR.out _ _ (HG.out.own.kept (grown_set (grown_set (grown_set (grown_refl _ _) _ _) _ _) _ _) (.inr (Ne.symm (own_ne HG.out.own HG.out.res (by decide))))) (((HG.out.bel.setCell (p := ⟨w.heap.size + 1, 0, none⟩) (show w.heap.size ≤ w.heap.size + 1 by omega) _).setCell (p := ⟨w.heap.size + 1, 1, none⟩) (show w.heap.size ≤ w.heap.size + 1 by omega) _).setCell (p := ⟨w.heap.size + 1, 2, none⟩) (show w.heap.size ≤ w.heap.size + 1 by omega) _)
end Go.Proofs.Ytohplhahghilaaa
