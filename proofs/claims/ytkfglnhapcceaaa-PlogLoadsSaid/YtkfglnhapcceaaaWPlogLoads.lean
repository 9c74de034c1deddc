/-
  The walk of PlogLoads.
-/
import Derived.Test.YtkfglnhapcceaaaLogRI
import Derived.Test.YtkfglnhapcceaaaLogRK
import Derived.Test.YtkfglnhapcceaaaFix6
set_option linter.unusedVariables false
set_option linter.unusedSimpArgs false
namespace Go.Proofs.Ytkfglnhapcceaaa.plogLoads
open Go.RowKit
attribute [local go_sem] ByteArray.extract_mk ByteArray.mk_append_mk

/-- A record with its offset, and a segment, cut to what a statement can hold. -/
def cutF (f : Fnd) : Fnd := ⟨f.off, cutR f.r⟩
def cutS (s : Sd) : Sd := ⟨s.base, s.next, (s.l.take 70).map cutF⟩
theorem cut_bd {f : Fnd} : RecBd (cutF f).r := ⟨by simp only [cutF, cutR, List.length_take]; unfold maxLen; omega, by simp only [cutF, cutR, List.length_take]; unfold maxLen; omega⟩
theorem cutS_bd {s : Sd} : (cutS s).l.length ≤ 70 ∧ ∀ f ∈ (cutS s).l, RecBd f.r :=
  ⟨by simp only [cutS, List.length_map, List.length_take]; omega, fun f hf => by
    obtain ⟨f', _, rfl⟩ := List.mem_map.1 hf
    exact cut_bd⟩

set_option maxHeartbeats 8000000 in
set_option maxRecDepth 100000 in
theorem walk {w : World} (room : Int) (v : Value) (D : List Sd) (u : Value) (rs : List Rec) (hr : -9223372036854775808 ≤ room ∧ room ≤ 9223372036854775807) (hv : ∃ bs, SegsIn w v bs D)
    (hl : D.length ≤ maxLen ∧ ∀ s ∈ D, s.l.length ≤ maxLen ∧ (Lit.int .i64 s.base).wf = true ∧ (Lit.int .i64 s.next).wf = true ∧ ∀ f ∈ s.l, RecBd f.r ∧ (Lit.int .i64 f.off).wf = true)
    (hu : RecsIn w u rs ∧ ∃ a cap, u = .slice a rs.length cap ∧ rs.length ≤ cap) (hrb : RecsBd rs) :
    RetB Try.prog 3 #[.int .i64 room, v, u] w (.bool true) := by
  refine RetB.intro fun R hR => ?_
  obtain ⟨bs, hv⟩ := hv
  obtain ⟨hu, ua, uc, rfl, hucap⟩ := hu
  have HV := Lib.hid hv
  have HU := Lib.hid hu
  have HRB := Lib.hid hrb
  have HL := Lib.hid hl.2
  have hll : D.length ≤ 9223372036854775807 := by have := hl.1; unfold maxLen at this; omega
  have hrl : rs.length ≤ 9223372036854775807 := by have := hrb.1; unfold maxLen at this; omega
  obtain ⟨a, cap, rfl⟩ := hv.form
  obtain ⟨i0, hi, hz0, hz1, hz2⟩ := info_parts segInfo
  obtain ⟨j0, hj, hy0, hy1, hy2⟩ := info_parts fndInfo
  have o0 : (w.alloc (.cells #[] 26)).ownsRow w.heap.size 26 3 (.slice (some ⟨w.heap.size, 0, none⟩) 0 0) 0 [] := World.ownsRow_made w #[] 0 (Nat.le_refl _) (by omega) rfl
  have S0 : Hid (SegsOwn (w.alloc (.cells #[] 26)) w.heap.size (.slice (some ⟨w.heap.size, 0, none⟩) 0 0) ((D.take 0).map cutS) []) := Lib.hid ⟨by simpa [sdsCells] using o0, rfl, fun i h => by simp at h⟩
  clear hv hl hu hrb o0
  go_enter Try.func3, Try.ntmps3
  go_wp2_with fail
  go_loopw [7, 8, 9, 10, 11] (fun (v7 v8 v9 v10 v11 : Value) (W : World) => ∃ (i : Nat) (lvs : List Value), i ≤ D.length ∧ i ≤ 6 ∧ v8 = .int .i64 (i : Int) ∧ SegsOwn W w.heap.size v7 ((D.take i).map cutS) lvs ∧ Below w.heap.size w W) (fun (v7 v8 v9 v10 v11 : Value) (W : World) => (D.length - intOf v8).toNat)
  case atStart => exact ⟨0, [], by omega, by omega, rfl, S0.out, below_all (Below.refl _ _)⟩
  case round =>
    obtain ⟨i, lvs, hil, hi6, rfl, hS, hnx⟩ := hrel
    by_cases hgo : i < D.length ∧ i < 6
    · obtain ⟨h1, h2⟩ := hgo
      rcases HV.out.below hnx with ⟨h, _⟩ | ⟨b, off, cap', slv, hsl, hcap, hne, hlt, hbb, hsl2, hc⟩
      · rw [h] at h1; simp at h1
      simp only [Value.slice.injEq, true_and] at hsl
      obtain ⟨rfl, rfl⟩ := hsl
      obtain ⟨⟨c0, c1, c2, c3⟩, _⟩ := hc i h1 (by omega)
      have hbd := Lib.hid (HL.out _ (List.getElem_mem h1))
      have hts : Hid ((D.take (i + 1)).map cutS = (D.take i).map cutS ++ [cutS D[i]]) := Lib.hid (by rw [List.take_succ_eq_append_getElem h1, List.map_append]; rfl)
      obtain ⟨la, lc, hlk⟩ := c3.form
      rw [hlk] at c2 c3
      have hlen0 := hbd.out.1
      have hlen : D[i].l.length ≤ 9223372036854775807 := by unfold maxLen at hlen0; omega
      have C3 := Lib.hid c3
      have HS := Lib.hid hS
      clear hc hne hlk c3 hS hlen0
      generalize D[i] = s at *
      generalize slv[i] = lv at *
      have k0 : (0 : Int) ≤ (i : Int) := by omega
      have k1 : (i : Int) < (D.length : Int) := by omega
      have k2 : (i : Int) < 6 := by omega
      have nw0 := World.new_ne wr.drew _ c0
      have nw1 := World.new_ne wr.drew _ c1
      go_wp2_with fail
      go_region_held3 (fun w' => w'.cell? ⟨b, off + i * 3, none⟩ = some (.int .i64 s.base) ∧ w'.cell? ⟨b, off + i * 3 + 1, none⟩ = some (.int .i64 s.next)) (go_keep) (fail)
      obtain ⟨Wx, rfl⟩ : ∃ Wx, Wx = wr := ⟨_, rfl⟩
      have hX1 := (Blk.new Wx #[.int .i64 s.base, .int .i64 s.next, .slice none 0 0] 26).drew
      have hB1 : Below Wx.heap.size Wx ((Wx.alloc (.cells #[.int .i64 s.base, .int .i64 s.next, .slice none 0 0] 26)).drew) := (below_all (Below.refl _ _)).drew
      clear nw0 nw1 c0 c1 k2
      go_wp2_with fail
      generalize (Wx.alloc (.cells #[.int .i64 s.base, .int .i64 s.next, .slice none 0 0] 26)).drew = W1 at *
      go_loopw [10, 11] (fun (v10 v11 : Value) (W : World) => ∃ (j : Nat) (lx : Value), j ≤ s.l.length ∧ j ≤ 70 ∧ v10 = .int .i64 (j : Int) ∧ Blk W Wx.heap.size #[.int .i64 s.base, .int .i64 s.next, lx] 26 ∧ W.ownsRow Wx.heap.size 31 5 lx j (((s.l.take j).map cutF).flatMap Fnd.cells) ∧ Below Wx.heap.size Wx W) (fun (v10 v11 : Value) (W : World) => (s.l.length - intOf v10).toNat)
      case atStart => exact ⟨0, .slice none 0 0, by omega, by omega, rfl, hX1, by simpa using World.ownsRow_nil _ _ _ _, hB1⟩
      case round =>
        obtain ⟨j, lx, hjl, hj70, rfl, hX, hO, hbx⟩ := hrel
        have d2 := (hbx.cell (p := ⟨b, off + i * 3 + 2, none⟩) hlt).trans c2
        obtain ⟨xa, xc, rfl⟩ := own_form hO
        obtain ⟨kx, x0, x1, x2⟩ := hX.c3
        have cf := fun i => Blk.frozen hX i
        clear hX1 hB1
        by_cases hgj : j < s.l.length ∧ j < 70
        · obtain ⟨hj1, hj2⟩ := hgj
          rcases C3.out.below hbx with ⟨h, _⟩ | ⟨fb, fo, fcap, hfs, _, _, hflt, hfc⟩
          · rw [h] at hj1; simp at hj1
          simp only [Value.slice.injEq, true_and] at hfs
          obtain ⟨rfl, rfl⟩ := hfs
          obtain ⟨f0, f1, f2, f3, f4⟩ := hfc j hj1
          have hbf := (hbd.out.2.2.2 _ (List.getElem_mem hj1)).1
          have hfts : Hid ((s.l.take (j + 1)).map cutF = (s.l.take j).map cutF ++ [cutF s.l[j]]) := Lib.hid (by rw [List.take_succ_eq_append_getElem hj1, List.map_append]; rfl)
          clear hfc
          generalize s.l[j] = f at *
          have q0 : (0 : Int) ≤ (j : Int) := by omega
          have q1 : (j : Int) < (s.l.length : Int) := by omega
          have q2 : (j : Int) < 70 := by omega
          have hrA : RecAt (wr.alloc (.cells f.r.cells.toArray 29)) wr.heap.size 0 f.r := by
            have hb := Blk.new wr f.r.cells.toArray 29
            exact ⟨hb.cell 0, hb.cell 1, hb.cell 2, hb.cell 3⟩
          have cR := Lib.hid (records5 f.r wr.heap.size 1 _ (by simp) (by omega) hrA hbf)
          clear hrA hbf
          go_wp2_with fail
          refine (show RecCall _ _ _ _ from cR.out).mono ?_
          rintro e w2 ⟨g2, c2', rfl, hg2, hr2, b2, _⟩
          have b2' : Below wr.heap.size wr w2 := below_any (Nat.le_refl _) (below_all (o := .cells f.r.cells.toArray 29) (Below.refl _ _)) b2
          have bx2 := below_any (Nat.le_refl _) hbx b2'
          have O2 := own_keptBy hO (Kept.ofBelow b2' []) (away_nil _)
          have X2 := hX.below b2'
          obtain ⟨e0, e1, e2, e3⟩ := X2.c3
          have f0' := (b2'.cell (p := ⟨fb, fo + j * 5, none⟩) hflt).trans f0
          have d2' := (b2'.cell (p := ⟨b, off + i * 3 + 2, none⟩) (Nat.lt_of_lt_of_le hlt hbx.size)).trans d2
          obtain ⟨r0, r1, r2, r3⟩ := hr2
          obtain ⟨cr, hcr⟩ : ∃ cr, cutR f.r = cr := ⟨_, rfl⟩
          have hts2 : Hid ((s.l.take (j + 1)).map cutF = (s.l.take j).map cutF ++ [⟨f.off, cr⟩]) := Lib.hid (by rw [hfts.out, ← hcr]; rfl)
          rw [hcr] at r0 r1 r2 r3
          simp only [Nat.zero_add] at r1 r2 r3
          have hfb2 : fb < w2.heap.size := Nat.lt_of_lt_of_le hflt b2'.size
          clear hfts hcr cR hO hX x0 x1 x2 kx cf f0 f1 f2 f3 f4 d2 b2 b2'
          have hsz := bx2.size
          have BX2 := Lib.hid bx2
          clear bx2
          have hb2 : b < w2.heap.size := Nat.lt_of_lt_of_le hlt hsz
          go_wp2_with fail
          go_region_law (refine step_append_lies _ (by rfl) _ _ _ (by rfl) Wx.heap.size 31 j0 _ 5 56 Try.underlying24 hj hy0 hy1 hy2 rfl (by omega) (.slice xa j xc) j (((s.l.take j).map cutF).flatMap Fnd.cells) (by simp [Act.eval, Act.put]) (World.ownsRow.alloc (w := w2.drew) O2 _) ⟨w2.heap.size, 0, none⟩ 1 1 (⟨f.off, cr⟩ : Fnd).cells (by simp [Act.eval, Act.put]) rfl (news_fnd (W := w2.drew) (⟨f.off, cr⟩ : Fnd) rfl) (by simp [Value.oneCell', Fnd.cells, Rec.cells]) (by omega) (by unfold maxLen; omega) (by omega) (by simp; omega) (w2.heap.size + 1) (by simp) ?_; intro g3 c3 w3 hown3 hgrow3 hat3 hlt3; have bb := (Blk.alloc (w := w2.drew) X2 (.cells (⟨f.off, cr⟩ : Fnd).cells.toArray 31)).grown hgrow3 (own_ne (World.ownsRow.alloc (w := w2.drew) O2 (.cells (⟨f.off, cr⟩ : Fnd).cells.toArray 31)) (Blk.alloc (w := w2.drew) X2 (.cells (⟨f.off, cr⟩ : Fnd).cells.toArray 31)) (by decide)); obtain ⟨kk, pp0, pp1, pp2⟩ := bb.c3; have ff := fun i => Blk.frozen bb i)
          all_goals go_wp2_with fail
          all_goals
            have hown4 : w3.ownsRow Wx.heap.size 31 5 (.slice (some ⟨g3, 0, none⟩) (j + 1) c3) (j + 1) (((s.l.take (j + 1)).map cutF).flatMap Fnd.cells) := by rw [hts2.out, List.flatMap_append]; simpa using hown3
            have hg4 : w3.grownBy (w3.setCell ⟨Wx.heap.size, 2, none⟩ (.slice (some ⟨g3, 0, none⟩) (j + 1) c3)) (some Wx.heap.size) := grown_set (grown_refl _ _) _ _
            have n1 := below_all (o := .cells (⟨f.off, cr⟩ : Fnd).cells.toArray 31) BX2.out.drew
            have n2 := Kept.below n1 (Kept.ofGrown hgrow3) (fun x hx => by simp only [Option.mem_toList] at hx; exact (O2.lt x hx).1) n1.size
            have n3 := Lib.hid (Kept.below n2 (Kept.ofGrown hg4) (fun x hx => by simp at hx; omega) n2.size)
            have o5 := Lib.hid (hown4.kept hg4 (.inr (Ne.symm (own_ne hown4 bb (by decide)))))
            clear n1 n2 hg4 hown4 hown3 hgrow3 hat3
            go_roundw
            case rel => exact ⟨j + 1, _, by omega, by omega, by go_num, bb.set 2 _, o5.out, n3.out⟩
            case measure => first | (simp [intOf]; done) | (simp [intOf]; omega)
        · have LJ := Lib.hid (show (s.l.take j).map cutF = (cutS s).l from by
            unfold cutS
            by_cases e : j = s.l.length
            · rw [List.take_of_length_le (by omega), List.take_of_length_le (by omega)]
            · rw [show j = 70 by omega])
          have hO2 : wr.ownsRow w.heap.size 31 5 (.slice xa j xc) (cutS s).l.length ((cutS s).l.flatMap Fnd.cells) := by
            have h1 := own_base hO hnx.size
            rw [LJ.out] at h1
            have h2 : (cutS s).l.length = j := by rw [← LJ.out, List.length_map, List.length_take]; omega
            rw [h2]
            exact h1
          have HO2 := Lib.hid hO2
          have HT2 := HS.out.belowB hbx
          have hML : ((D.take i).map cutS).length = i := by rw [List.length_map, List.length_take]; omega
          have hS1 := HT2.1
          rw [hML] at hS1
          obtain ⟨va, vc, rfl⟩ := own_form hS1
          have HT := Lib.hid HT2
          have o13 := World.ownsRow.alloc hS1 (.cells #[.int .i64 s.base, .int .i64 s.next, .slice xa j xc] 26)
          have n13 : ∀ q u, (sdCells (cutS s) (.slice xa j xc))[q]? = some u → (wr.alloc (.cells #[.int .i64 s.base, .int .i64 s.next, .slice xa j xc] 26)).cell? ((⟨wr.heap.size, 0, none⟩ : Addr).add q) = some u := World.news_of_block (cs := (sdCells (cutS s) (.slice xa j xc)).toArray) (t := 26) (fr := (0, 0)) (heap_alloc_new wr _)
          have N13 := Lib.hid n13
          have HML := Lib.hid hML
          have NX := Lib.hid (below_any (Nat.le_refl _) hnx hbx)
          have hsz0 := NX.out.size
          have HO13 := Lib.hid o13
          clear hO hO2 HT2 n13 hML hnx hbx C3 c2 hS1
          rcases (show ¬ (j < s.l.length) ∨ (j < s.l.length ∧ ¬ (j < 70)) by omega) with hgn | ⟨hgn, hgm⟩
          all_goals
            go_wp2_with (at_builtin; refine wpList_append_own _ rfl _ _ 22 rfl w.heap.size 26 i0 _ 3 40 Try.underlying22 hi hz0 hz1 hz2 rfl (by decide) _ _ _ rfl o13 ⟨wr.heap.size, 0, none⟩ 1 1 (sdCells (cutS s) (.slice xa j xc)) rfl rfl N13.out (by intro u hu; simp [sdCells] at hu; rcases hu with rfl | rfl | rfl <;> rfl) (by unfold maxLen; omega) (by omega) (by simp; omega) ?_; intro v5 w5 o5 g5 z5)
            have S5 := Lib.hid (SegsOwn.pushB (s := cutS s) (HT.out.belowB (below_all (o := .cells #[.int .i64 s.base, .int .i64 s.next, .slice xa j xc] 26) (Below.refl _ _))) (World.ownsRow.alloc HO2.out _) (by rw [HML.out]; exact o5) g5)
            have N5 := Lib.hid (Kept.below (below_all (o := .cells #[.int .i64 s.base, .int .i64 s.next, .slice xa j xc] 26) NX.out) (Kept.ofGrown g5) (fun x hx => by simp only [Option.mem_toList] at hx; exact (HO13.out.lt x hx).1) (by simp; omega))
            clear o5 g5 z5 o13
            go_wp2_with fail
            go_roundw
            case rel => exact ⟨i + 1, _, by omega, by omega, by go_num, by rw [hts.out]; exact S5.out, N5.out⟩
            case measure => first | (simp [intOf]; done) | (simp [intOf]; omega)
    · have hS0 := hS
      have hml : ((D.take i).map cutS).length ≤ 6 := by rw [List.length_map, List.length_take]; omega
      have hmb : ∀ s ∈ (D.take i).map cutS, s.l.length ≤ 9223372036854775807 ∧ ∀ f ∈ s.l, RecBd f.r := fun s hs => by
        obtain ⟨s', _, rfl⟩ := List.mem_map.1 hs
        exact ⟨by have := (cutS_bd (s := s')).1; omega, cutS_bd.2⟩
      have hrc : RecsBd (cut70 rs) := bd_small _ ⟨by unfold cut70; rw [List.length_map, List.length_take]; omega, fun r hr => by
        obtain ⟨r', _, rfl⟩ := List.mem_map.1 (show r ∈ (rs.take 70).map cutR from hr)
        simp only [cutR, List.length_take]; omega⟩
      have HM := Lib.hid (hS.base (Nat.zero_le _))
      generalize (D.take i).map cutS = M at *
      have HMB := Lib.hid hmb
      have HRC := Lib.hid hrc
      obtain ⟨va, vc, rfl⟩ := own_form hS.1
      have cX := Lib.hid (fun W (hb : Below w.heap.size w W) => recsN5 ua uc rs W (HU.out.below hb) HRB.out hucap)
      clear hS hS0 hmb hrc S0
      have hgo2 : ¬ (i < D.length) ∨ (i < D.length ∧ ¬ (i < 6)) := by omega
      clear hgo
      by_cases hge : gerr room M = 0
      · have hG := Lib.hid (good_gerr.1 hge)
        have HGE := Lib.hid hge
        clear hge
        rcases hgo2 with hgn | ⟨hgn, hgm⟩
        all_goals
          go_wp2_with fail
          refine load6_ok room _ _ M _ HM.out.in.1 (by omega) hG.out ?_
          intro g cs1 w1 L1 B1 N1
          have B1h := Lib.hid (below_any (Nat.le_refl _) hnx B1)
          have R1 := Lib.hid (HM.out.kept (Kept.ofBelow B1 []) (by simp))
          have L1h := Lib.hid L1
          have M1h : Hid (∀ x ∈ cs1, w.heap.size ≤ x) := Lib.hid (fun x hx => Nat.le_trans hnx.size (N1 x hx))
          have Z1 := B1.size
          clear L1 B1 N1
          go_wp2_with fail
          refine rload6_ok R1.out (by omega) HMB.out HGE.out ?_
          intro k cs2 w2 K2 B2 N2
          have B2h := Lib.hid (below_any (Nat.le_refl _) B1h.out B2)
          have L2h := Lib.hid (L1h.out.below B2)
          have K2h := Lib.hid K2
          have M2h : Hid (∀ x ∈ cs2, w.heap.size ≤ x) := Lib.hid (fun x hx => Nat.le_trans B1h.out.size (N2 x hx))
          have D12 : Hid (∀ x ∈ cs2, x ∉ cs1) := Lib.hid (fun x hx hx1 => by have a1 := N2 x hx; have a2 := L1h.out.lt x hx1; omega)
          clear K2 B2 N2
          go_wp2_with fail
          refine (cX.out _ B2h.out).mono ?_
          rintro e w3 ⟨xv, rfl, xi, xw, xb⟩
          have B3h := Lib.hid (below_any (Nat.le_refl _) B2h.out xb)
          have L3 := L2h.out.below xb
          have K3 := K2h.out.below xb
          have A1 : Away cs1 xv := fun b hb hm => by have a1 := xw b hb; have a2 := L2h.out.lt b hm; omega
          have A2 : Away cs2 xv := fun b hb hm => by have a1 := xw b hb; have a2 := K2h.out.lt b hm; omega
          have cA0 := fun R kk => append6_use (R := R) L3 (by omega) xi A1 HRC.out kk
          have cB0 := fun R w k bs v h hv ha kk => rappend6_use (R := R) (w := w) (k := k) (bs := bs) (room := room) (D := M) (v := v) (rs := cut70 rs) h hG.out (by omega) hv ha HRC.out kk
          have hlD := dapp_len (room := room) (D := M) (rs := cut70 rs)
          generalize (if aerr6 room M (cut70 rs) = 0 then dend M else 0) = az at cA0 cB0
          generalize aerr6 room M (cut70 rs) = ez at cA0 cB0
          generalize dapp room M (cut70 rs) = D2 at cA0 cB0 hlD
          have cA := Lib.hid cA0
          have cB := Lib.hid cB0
          have A1h := Lib.hid A1
          have X3 := Lib.hid xi
          have A2h := Lib.hid A2
          have K3h := Lib.hid K3
          obtain ⟨xa, xc, rfl⟩ := xi.form
          clear xi xw xb L3 K3 A1 A2 cA0 cB0
          go_wp2_with fail
          refine cA.out _ ?_
          intro cs3 w4 L4 K4 C4
          have K4R := Lib.hid (K3h.out.kept K4 D12.out)
          have X4 := Lib.hid (X3.out.kept K4 A1h.out)
          have L4h := Lib.hid L4
          have B4h := Lib.hid (Kept.below B3h.out K4 M1h.out B3h.out.size)
          have D34 : Hid (∀ x ∈ cs3, x ∉ cs2) := Lib.hid (fun x hx hx2 => (C4 x hx).elim (fun h => D12.out x hx2 h) (fun h => by have := K3h.out.lt x hx2; omega))
          clear L4 K4 C4 cA
          go_wp2_with fail
          refine cB.out _ _ _ _ _ K4R.out X4.out A2h.out ?_
          intro cs4 w5 R5 K5 C5
          have L5 := L4h.out.kept K5 D34.out
          have B5h := Lib.hid (Kept.below B4h.out K5 M2h.out B4h.out.size)
          have cSm := Lib.hid (same6 g k cs3 cs4 room D2 w5 L5 R5 (by omega))
          clear R5 K5 C5 L5 cB
          go_wp2_with fail
          refine cSm.out.use ?_
          intro w6 b6
          go_wp2_with fail
          refine (fixed6 _).use ?_
          intro w7 b7
          go_wp2_with fail
          exact finB hR (below_any (Nat.le_refl _) (below_any (Nat.le_refl _) B5h.out b6) b7) rfl
      · have cL := Lib.hid (load6_no room _ _ M _ HM.out.in.1 (by omega) HMB.out hge)
        have cR := Lib.hid (fun W (hb : Below wr.heap.size wr W) => rload6_no (room := room) (HM.out.kept (Kept.ofBelow hb []) (by simp)) (by omega) HMB.out hge)
        clear hge
        generalize gerr room M = ez at cL cR
        rcases hgo2 with hgn | ⟨hgn, hgm⟩
        all_goals
          go_wp2_with fail
          refine cL.out.use ?_
          intro w1 b1
          go_wp2_with fail
          refine (cR.out _ b1).use ?_
          intro w2 b2
          go_wp2_with fail
          refine (fixed6 _).use ?_
          intro w3 b3
          go_wp2_with fail
          exact finB hR (below_any (Nat.le_refl _) (below_any (Nat.le_refl _) (below_any (Nat.le_refl _) hnx b1) b2) b3) rfl
end Go.Proofs.Ytkfglnhapcceaaa.plogLoads
