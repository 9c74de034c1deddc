import Derived.Test.YtkfglnhapcceaaaLogRD
import Derived.Test.YtkfglnhapcceaaaLogRG
import Derived.Deep.RegionHeldLaw
/-
  Layer 6: the document's Load of a log.
-/
set_option linter.unusedVariables false
set_option linter.unusedSimpArgs false
namespace Go.Proofs.Ytkfglnhapcceaaa
open Go.RowKit
attribute [local go_sem] ByteArray.extract_mk ByteArray.mk_append_mk

theorem rload5_ok (base next : Int) (v : Value) (l : List Fnd) (w : World) (hv : FndsIn w v l) (hns : (∃ ad n c, v = .slice (some ad) n c) ∨ v = .slice none 0 0) (hll : l.length ≤ 9223372036854775807) (hbd : ∀ f ∈ l, RecBd f.r) (h0 : lerr base next l = 0) :
    Calls Try.prog 34 #[.int .i64 base, .int .i64 next, v] w fun x w' => ∃ p, x = .returned (.tuple #[.pointer (some ⟨p, 0, none⟩), .int .i64 0]) ∧ Below w.heap.size w w' :=
  (rload5_any base next v l w hv hns hll hbd).mono fun x w' h => by
    rcases h with ⟨_, p, h1, _, h2⟩ | ⟨h, _⟩
    · exact ⟨p, h1, h2⟩
    · exact absurd h0 h
theorem rload5_no (base next : Int) (v : Value) (l : List Fnd) (w : World) (hv : FndsIn w v l) (hns : (∃ ad n c, v = .slice (some ad) n c) ∨ v = .slice none 0 0) (hll : l.length ≤ 9223372036854775807) (hbd : ∀ f ∈ l, RecBd f.r) (h0 : lerr base next l ≠ 0) :
    RetB Try.prog 34 #[.int .i64 base, .int .i64 next, v] w (.tuple #[.pointer none, .int .i64 (lerr base next l : Nat)]) :=
  (rload5_any base next v l w hv hns hll hbd).mono fun x w' h => by
    rcases h with ⟨h, _⟩ | ⟨_, h⟩
    · exact absurd h h0
    · exact h
/-- How the loading of the document's log ends. -/
def RLoadL (f : FuncId) (args : Array Value) (w : World) (room : Int) (D : List Sd) : Prop :=
  Calls Try.prog f args w fun x w' => (gerr room D = 0 ∧ ∃ g cs, x = .returned (.tuple #[.pointer (some ⟨g, 0, none⟩), .int .i64 0]) ∧ RLogAt w' g cs room D ∧ Below w.heap.size w w' ∧ ∀ x ∈ cs, w.heap.size ≤ x) ∨
    (gerr room D ≠ 0 ∧ x = .returned (.tuple #[.pointer none, .int .i64 (gerr room D : Nat)]) ∧ Below w.heap.size w w')
theorem own_ns {w : World} {B n s : Nat} {e : TypeId} {v : Value} {xs : List Value} (h : w.ownsRow B e s v n xs) : (∃ ad n c, v = .slice (some ad) n c) ∨ v = .slice none 0 0 := by
  rcases own_cases h with ⟨rfl, _⟩ | ⟨q, qc, rfl, _⟩
  · exact .inr rfl
  · exact .inl ⟨_, _, _, rfl⟩

set_option maxHeartbeats 1000000 in
theorem rload6_args (room : Int) (v : Value) (lvs : List Value) (D : List Sd) (w : World) (hv : SegsOwn w 0 v D lvs) (hDl : D.length ≤ 1000) (h : ¬ (1 ≤ room ∧ room ≤ 64) ∨ D = []) :
    RetB Try.prog 12 #[.int .i64 room, v] w (.tuple #[.pointer none, .int .i64 1]) := by
  refine RetB.intro fun R hR => ?_
  obtain ⟨a, cap, rfl⟩ := own_form hv.1
  clear hv
  by_cases hr1 : room < 1
  · go_enter Try.func12, Try.ntmps12
    go_wp2_with fail
    exact finB hR (Below.refl _ _) rfl
  · by_cases hr2 : 64 < room
    · go_enter Try.func12, Try.ntmps12
      go_wp2_with fail
      exact finB hR (Below.refl _ _) rfl
    · have h0 : D = [] := h.elim (fun h => absurd ⟨by omega, by omega⟩ h) id
      subst h0
      clear h
      go_enter Try.func12, Try.ntmps12
      go_wp2_with fail
      exact finB hR (Below.refl _ _) rfl

set_option maxHeartbeats 8000000 in
set_option maxRecDepth 100000 in
theorem rload6 (room : Int) (v : Value) (lvs : List Value) (D : List Sd) (w : World) (hv : SegsOwn w 0 v D lvs) (hDl : D.length ≤ 1000) (hbd : ∀ s ∈ D, s.l.length ≤ 9223372036854775807 ∧ ∀ f ∈ s.l, RecBd f.r) : RLoadL 12 #[.int .i64 room, v] w room D := by
  by_cases harg : ¬ (1 ≤ room ∧ room ≤ 64) ∨ D = []
  · have he : gerr room D = 1 := by unfold gerr; rw [if_pos harg]
    refine (rload6_args room v lvs D w hv hDl harg).mono fun e w' ⟨h1, h2⟩ => .inr ⟨by omega, by rw [h1, he]; rfl, h2⟩
  · have hr : 1 ≤ room ∧ room ≤ 64 := by
      by_cases h : 1 ≤ room ∧ room ≤ 64
      · exact h
      · exact absurd (.inl h) harg
    have hD : D ≠ [] := fun h => harg (.inr h)
    have hge : gerr room D = gscan room none D := by unfold gerr; rw [if_neg harg]
    obtain ⟨i0, hi, hz0, hz1, hz2⟩ := info_parts segInfo
    have HGE := Lib.hid hge
    have HBD := Lib.hid hbd
    have HV := Lib.hid hv
    obtain ⟨b, cap, rfl, hblt, hcap⟩ : ∃ b cap, v = .slice (some ⟨b, 0, none⟩) D.length cap ∧ b < w.heap.size ∧ D.length ≤ cap := by
      rcases own_cases hv.1 with ⟨_, h0⟩ | ⟨b, cap, rfl, _, hlt, _⟩
      · exact absurd (List.eq_nil_of_length_eq_zero h0) hD
      · exact ⟨b, cap, rfl, hlt, own_cap5 hv.1⟩
    have hDpos : 0 < D.length := List.length_pos_iff.2 hD
    have q0 : ((D.length : Int) == 0) = false := by simp; omega
    have r1 : (room < 1) = False := eq_false (by omega)
    have r2 : (64 < room) = False := eq_false (by omega)
    clear hv hbd harg hge
    unfold RLoadL
    go_enter Try.func12, Try.ntmps12
    go_wp2_with fail
    clear q0
    have L0 : RLogAt (w.alloc (.cells #[.int .i64 room, .slice none 0 0] 75)) w.heap.size [w.heap.size] room [] :=
      ⟨.slice none 0 0, [], Blk.new _ _ _, ⟨World.ownsRow_nil _ _ _ _, rfl, by simp⟩, by simp [Value.ownBlock, vBs]⟩
    have G0 : Below w.heap.size w (w.alloc (.cells #[.int .i64 room, .slice none 0 0] 75)) := below_all (Below.refl _ _)
    have hz00 : (w.alloc (.cells #[.int .i64 room, .slice none 0 0] 75)).heap.size = w.heap.size + 1 := by simp
    have HZ00 := Lib.hid hz00
    clear hz00 r1 r2
    generalize w.alloc (.cells #[.int .i64 room, .slice none 0 0] 75) = W0 at L0 G0 HZ00 ⊢
    go_loopw [7] (fun (v7 : Value) (W : World) => ∃ (k : Nat) (cs : List Nat), k ≤ D.length ∧ v7 = .int .i64 (k : Int) ∧ RLogAt W w.heap.size cs room (D.take k) ∧ Below w.heap.size w W ∧ (∀ x ∈ cs, w.heap.size ≤ x) ∧ Hid (gscan room (prevOf D k) (D.drop k) = gscan room none D)) (fun (v7 : Value) (W : World) => (D.length - intOf v7).toNat)
    case atStart => exact ⟨0, _, by omega, rfl, L0, G0, by simp, Lib.hid rfl⟩
    case round =>
      obtain ⟨k, cs, hk, rfl, hL, hnx, hcs, hsc⟩ := hrel
      by_cases hkl : k < D.length
      · have j0 : (0 : Int) ≤ (k : Int) := by omega
        have j1 : (k : Int) < (D.length : Int) := by omega
        obtain ⟨o1, o2, o3⟩ := HV.out
        have hkl2 : k < lvs.length := by omega
        have hcell0 : ∀ i, (h : i < D.length) → (h' : i < lvs.length) → wr.cell? ⟨b, i * 3, none⟩ = some (.int .i64 D[i].base) ∧ wr.cell? ⟨b, i * 3 + 1, none⟩ = some (.int .i64 D[i].next) ∧ wr.cell? ⟨b, i * 3 + 2, none⟩ = some lvs[i] := fun i hi hi' => by
          have hc := o1.cells (g := b) rfl
          have at_ : ∀ j u, j < 3 → (sdCells D[i] lvs[i])[j]? = some u → wr.cell? ⟨b, i * 3 + j, none⟩ = some u := fun j u hj hu => by
            have := hc (i * 3 + j) u (by rw [sdsCells_get i j hi hi' hj]; exact hu)
            rw [addr_add] at this
            exact (hnx.cell (p := ⟨b, i * 3 + j, none⟩) hblt).trans (by rw [← this]; congr 2; omega)
          exact ⟨at_ 0 _ (by omega) rfl, at_ 1 _ (by omega) rfl, at_ 2 _ (by omega) rfl⟩
        obtain ⟨c0, c1, c2⟩ := hcell0 k hkl hkl2
        have c3 := o3 k hkl hkl2
        have hbk := HBD.out _ (List.getElem_mem hkl)
        have hsg := (gscan_at (room := room) hkl).symm.trans hsc.out
        have hts : D.take (k + 1) = D.take k ++ [D[k]] := List.take_succ_eq_append_getElem hkl
        have HTS := Lib.hid hts
        have HSG := Lib.hid hsg
        have hprev : ∀ j, (e : k = j + 1) → prevOf D k = some (D[j]'(by omega)).next := fun j e => by subst e; exact prevOf_succ _
        have hcell : ∀ j, (e : k = j + 1) → wr.cell? ⟨b, j * 3 + 1, none⟩ = some (.int .i64 (D[j]'(by omega)).next) := fun j e => (hcell0 j (by omega) (by omega)).2.1
        have HPV := Lib.hid hprev
        have HCL := Lib.hid hcell
        have HNS := Lib.hid (own_ns c3)
        have C3 := Lib.hid (own_keptBy c3 (Kept.ofBelow hnx []) (away_nil _))
        obtain ⟨la, lc, hlk⟩ := own_form c3
        have HBK := Lib.hid hbk
        rw [hlk] at c2 HNS C3
        generalize D[k] = s at *
        clear o1 o3 hcell0 c3 hbk hsg hts hprev hcell hlk hsc
        have hl9 := HBK.out.1
        have hltr : b < wr.heap.size := Nat.lt_of_lt_of_le hblt hnx.size
        by_cases hle : lerr s.base s.next s.l = 0
        · have cL := Lib.hid (fun W (hb : Below wr.heap.size wr W) => rload5_ok s.base s.next _ s.l W ((fnds_own C3.out).below hb) HNS.out HBK.out.1 HBK.out.2 hle)
          have D0 : Below wr.heap.size wr wr.drew := (Below.refl _ _).drew
          have HS1 := HSG.out
          rw [if_neg (by simp [hle])] at HS1
          have HS2 := Lib.hid HS1
          clear HSG HS1 hle
          go_wp2_with fail
          go_region_held3 (fun w' => w'.cell? ⟨b, k * 3, none⟩ = some (.int .i64 s.base) ∧ w'.cell? ⟨b, k * 3 + 1, none⟩ = some (.int .i64 s.next) ∧ w'.cell? ⟨b, k * 3 + 2, none⟩ = some (.slice la s.l.length lc)) (go_keep) (first | (go_at_call 34; refine (cL.out _ (by assumption)).mono ?_; rintro e w1 ⟨p, rfl, b1⟩; have hb1 := below_any (Nat.le_refl _) D0 b1; have x0 := (hb1.cell (p := ⟨b, k * 3, none⟩) hltr).trans c0; have x1 := (hb1.cell (p := ⟨b, k * 3 + 1, none⟩) hltr).trans c1; have x2 := (hb1.cell (p := ⟨b, k * 3 + 2, none⟩) hltr).trans c2))
          have hnx1 := below_any (Nat.le_refl _) hnx hb1
          have HX0 := Lib.hid hb1
          have L1 := Lib.hid (hL.below hb1)
          have HCS := Lib.hid hcs
          have HNX1 := Lib.hid hnx1
          have HC0 := Lib.hid c0
          have HC1 := Lib.hid c1
          have HC2 := Lib.hid c2
          clear hL hcs b1 cL D0 c0 c1 c2
          by_cases hroom : room < (s.l.length : Int)
          · have he : Hid (1 = gscan room none D) := Lib.hid (by have := HS2.out; rwa [if_pos (.inl hroom)] at this)
            have he2 : Hid (gerr room D = 1) := Lib.hid (HGE.out.trans he.out.symm)
            have he3 : Hid (gerr room D ≠ 0) := Lib.hid (by rw [he2.out]; simp)
            have t1 : (room < (s.l.length : Int)) = True := eq_true hroom
            obtain ⟨kk, y0, y1⟩ : w.heap.size < w1.heap.size ∧ w1.cell? ⟨w.heap.size, 0, none⟩ = some (.int .i64 room) ∧ True := by
              obtain ⟨sv, lv9, h1, _⟩ := L1.out
              exact ⟨h1.c2.1, h1.c2.2.1, trivial⟩
            clear y1
            go_wp2_with fail
            go_quiet (fail)
            go_wp2_with fail
            go_ret2
            exact .inr ⟨he3.out, by rw [he2.out]; rfl, belowN hnx1 _⟩
          · have t1 : (room < (s.l.length : Int)) = False := eq_false hroom
            obtain ⟨kk, y0, y1⟩ : w.heap.size < w1.heap.size ∧ w1.cell? ⟨w.heap.size, 0, none⟩ = some (.int .i64 room) ∧ True := by
              obtain ⟨sv, lv9, h1, _⟩ := L1.out
              exact ⟨h1.c2.1, h1.c2.2.1, trivial⟩
            clear y1
            by_cases hbad : prevOf D k ≠ none ∧ prevOf D k ≠ some s.base
            · have he : Hid (1 = gscan room none D) := Lib.hid (by have := HS2.out; rwa [if_pos (.inr hbad)] at this)
              have he2 : Hid (gerr room D = 1) := Lib.hid (HGE.out.trans he.out.symm)
              have he3 : Hid (gerr room D ≠ 0) := Lib.hid (by rw [he2.out]; simp)
              have hk0 : k ≠ 0 := fun e => hbad.1 (by rw [e]; exact prevOf_zero D)
              obtain ⟨j, hj⟩ : ∃ j, k = j + 1 := ⟨k - 1, by omega⟩
              have hpj := HPV.out j hj
              have hcj := (HX0.out.cell (p := ⟨b, j * 3 + 1, none⟩) hltr).trans (HCL.out j hj)
              obtain ⟨x, hx⟩ : ∃ x, (D[j]'(by omega)).next = x := ⟨_, rfl⟩
              rw [hx] at hpj hcj
              have hne : (s.base != x) = true := by
                have h2 := hbad.2
                rw [hpj] at h2
                simp only [ne_eq, Option.some.injEq] at h2
                simpa using fun e => h2 e.symm
              have t2 : ((0 : Int) < (k : Int)) = True := eq_true (by omega)
              have t3 : (0 < k) = True := eq_true (by omega)
              have e1 : IntKind.i64.wrap ((k : Int) - 1) = (j : Int) := by rw [IntKind.wrap_i64]; omega
              have i1 : (0 : Int) ≤ (j : Int) := by omega
              have i2 : (j : Int) < (D.length : Int) := by omega
              clear hx hpj hbad hj
              go_wp2_with fail
              go_quiet (fail)
              go_wp2_with fail
              go_ret2
              exact .inr ⟨he3.out, by rw [he2.out]; rfl, belowN hnx1 _⟩
            · have HS3 : Hid (gscan room (prevOf D (k + 1)) (D.drop (k + 1)) = gscan room none D) := Lib.hid (by
                have := HS2.out
                rwa [if_neg (by rintro (h | h); exact hroom h; exact hbad h)] at this)
              have hl64 : s.l.length ≤ 1000000 := by omega
              by_cases hk0 : k = 0
              case' pos =>
                clear hbad
                have t2 : ((0 : Int) < (k : Int)) = False := eq_false (by omega)
                have t3 : (0 < k) = False := eq_false (by omega)
                clear hk0
                go_wp2_with fail
                go_quiet (fail)
                clear t2 t3
              case' neg =>
                obtain ⟨j, hj⟩ : ∃ j, k = j + 1 := ⟨k - 1, by omega⟩
                have hpj := HPV.out j hj
                have hcj := (HX0.out.cell (p := ⟨b, j * 3 + 1, none⟩) hltr).trans (HCL.out j hj)
                obtain ⟨x, hx⟩ : ∃ x, (D[j]'(by omega)).next = x := ⟨_, rfl⟩
                rw [hx] at hpj hcj
                have hnb : (s.base != x) = false := by
                  rw [bne_eq_false_iff_eq]
                  by_cases e : s.base = x
                  · exact e
                  · exact absurd ⟨by rw [hpj]; simp, by rw [hpj]; simpa using fun h => e h.symm⟩ hbad
                have t2 : ((0 : Int) < (k : Int)) = True := eq_true (by omega)
                have t3 : (0 < k) = True := eq_true (by omega)
                have e1 : IntKind.i64.wrap ((k : Int) - 1) = (j : Int) := by rw [IntKind.wrap_i64]; omega
                have i1 : (0 : Int) ≤ (j : Int) := by omega
                have i2 : (j : Int) < (D.length : Int) := by omega
                clear hx hpj hbad hj
                go_wp2_with fail
                go_quiet (fail)
                clear t2 t3 e1 i1 i2 hnb hcj
              all_goals
                have b3 := Lib.hid (belowN (Below.refl w1.heap.size w1) nq)
                have hb13 := below_any (Nat.le_refl _) HX0.out b3.out
                have L3 := L1.out.below b3.out
                have hnx3 := Lib.hid (below_any (Nat.le_refl _) hnx1 b3.out)
                generalize w1.drewN nq = w3 at *
                obtain ⟨sv, lv9, h1, h2, hbs⟩ := L3
                have hAl : (D.take k).length ≤ 1000 := by rw [List.length_take]; omega
                generalize D.take k = A at *
                obtain ⟨va2, vc2, rfl⟩ := own_form h2.1
                obtain ⟨kk3, u0, u1⟩ := h1.c2
                have fz : ∀ i, w3.frozen? ⟨w.heap.size, i, none⟩ = false := fun i => Blk.frozen h1 i
                have z0 := (hb13.cell (p := ⟨b, k * 3, none⟩) hltr).trans HC0.out
                have z1 := (hb13.cell (p := ⟨b, k * 3 + 1, none⟩) hltr).trans HC1.out
                have z2 := (hb13.cell (p := ⟨b, k * 3 + 2, none⟩) hltr).trans HC2.out
                have hlt3 : b < w3.heap.size := Nat.lt_of_lt_of_le hltr hb13.size
                have H1 := Lib.hid h1
                have H2 := Lib.hid h2
                have HBS := Lib.hid hbs
                have hbn : some b ≠ (Value.slice va2 A.length vc2).ownBlock := fun e => by
                  have := HCS.out b (by rw [hbs, ← e]; simp)
                  omega
                have hwn : some w.heap.size ≠ (Value.slice va2 A.length vc2).ownBlock := own_ne h2.1 h1 (by decide)
                have HBN := Lib.hid hbn
                have HWN := Lib.hid hwn
                have cG := Lib.hid (fun W (hb : Below w3.heap.size w3 W) => rseg6 s _ W ((fnds_own C3.out).below (below_any (Nat.le_refl _) hb13 hb)) HNS.out hl64)
                have D0 : Below w3.heap.size w3 w3.drew := (Below.refl _ _).drew
                clear h1 h2 hbs y0 kk hbn hwn
                go_wp2_with fail
                go_region_law (first | (refine step_append_any (by rfl) _ _ _ (by rfl) 0 26 i0 _ 3 40 Try.underlying22 hi hz0 hz1 hz2 rfl (by omega) (.slice va2 A.length vc2) A.length (sdsCells A lv9) (by simp [Act.eval, Act.put]) (own_keptBy H2.out.1 (Kept.ofBelow hb10 []) (away_nil _)) (some ⟨w9.heap.size, 0, none⟩) 1 1 (sdCells s (.slice va9 s.l.length vc9)) (by simp [Act.eval, Act.put]) (.inr ⟨_, rfl, World.news_of_block (cs := (sdCells s (.slice va9 s.l.length vc9)).toArray) (t := 26) (fr := (0, 0)) (heap_alloc_new w9 _)⟩) rfl (by intro u hu; simp [sdCells] at hu; rcases hu with rfl | rfl | rfl <;> rfl) (by unfold maxLen; omega) (by omega) (by omega) _ rfl ?_; intro v11 w11 o11 g11 at11; obtain ⟨va11, vc11, rfl⟩ := own_form o11; have hz9 := hb9.size; have q0 := (g11.cell_far _ (by simp; omega) HBN.out).trans ((hb10.cell (p := ⟨b, k * 3, none⟩) hlt3).trans z0); have q1 := (g11.cell_far _ (by simp; omega) HBN.out).trans ((hb10.cell (p := ⟨b, k * 3 + 1, none⟩) hlt3).trans z1); have q2 := (g11.cell_far _ (by simp; omega) HBN.out).trans ((hb10.cell (p := ⟨b, k * 3 + 2, none⟩) hlt3).trans z2); have q3 := (g11.cell_far _ (by simp; omega) HWN.out).trans ((hb10.cell (p := ⟨w.heap.size, 1, none⟩) kk3).trans u1); have fz11 : ∀ i, w11.frozen? ⟨w.heap.size, i, none⟩ = false := fun i => Blk.frozen ((H1.out.below hb10).grown g11 HWN.out) i) | (go_simp; go_at_call 35; refine (cG.out _ (by assumption)).use ?_; intro v9 w9 o9 b9; have hb9 := below_any (Nat.le_refl _) D0 b9; have x0 := (hb9.cell (p := ⟨b, k * 3, none⟩) hlt3).trans z0; have x1 := (hb9.cell (p := ⟨b, k * 3 + 1, none⟩) hlt3).trans z1; have x2 := (hb9.cell (p := ⟨b, k * 3 + 2, none⟩) hlt3).trans z2; have x3 := (hb9.cell (p := ⟨w.heap.size, 1, none⟩) kk3).trans u1; have oneV := own_slice1 o9; obtain ⟨va9, vc9, rfl⟩ := own_form o9; have hb10 := below_all (o := .cells #[.int .i64 s.base, .int .i64 s.next, .slice va9 s.l.length vc9] 26) hb9; have O9 := Lib.hid (World.ownsRow.alloc (own_base o9 (Nat.zero_le _)) (.cells #[.int .i64 s.base, .int .i64 s.next, .slice va9 s.l.length vc9] 26)); have k9 : w.heap.size < w9.heap.size := Nat.lt_of_lt_of_le kk3 hb9.size; have x4 := (hb10.cell (p := ⟨w.heap.size, 1, none⟩) kk3).trans u1; go_wp2_with fail))
                all_goals go_wp2_with fail
                all_goals
                  obtain ⟨cs2, LL, KK, CC⟩ := RLogAt.push (H1.out.below hb10) (H2.out.kept (Kept.ofBelow hb10 []) (by simp)) O9.out o11 g11 at11
                  have hbs2 : ∀ x ∈ w.heap.size :: ((Value.slice va2 A.length vc2).ownBlock.toList ++ vBs lv9), w.heap.size ≤ x := fun x hx => HCS.out x (by rw [HBS.out]; exact hx)
                  have hnx10 := below_any (Nat.le_refl _) hnx3.out hb10
                  have hnx11 := Kept.below hnx10 KK hbs2 hnx10.size
                  have hcs2 : ∀ x ∈ cs2, w.heap.size ≤ x := fun x hx => by
                    have s3 := hnx3.out.size
                    have s10 := hnx10.size
                    rcases CC x hx with h | h | h
                    · exact hbs2 x h
                    · simp only [Option.mem_toList] at h
                      have h9 : w3.heap.size ≤ x := (o9.lt x h).1
                      omega
                    · omega
                  have LF := Lib.hid LL
                  have NF := Lib.hid hnx11
                  have CF := Lib.hid hcs2
                  clear KK CC hbs2 hnx10 LL hnx11 hcs2
                  go_roundw
                  case rel => exact ⟨k + 1, cs2, by omega, by go_num, by rw [HTS.out]; exact LF.out, NF.out, CF.out, HS3⟩
                  case measure => first | (simp [intOf]; done) | (simp [intOf]; omega)
        · have cL := Lib.hid (fun W (hb : Below wr.heap.size wr W) => rload5_no s.base s.next _ s.l W ((fnds_own C3.out).below hb) HNS.out HBK.out.1 HBK.out.2 hle)
          have D0 : Below wr.heap.size wr wr.drew := (Below.refl _ _).drew
          have HS1 := HSG.out
          rw [if_pos hle] at HS1
          have he2 : Hid (gerr room D = lerr s.base s.next s.l) := Lib.hid (HGE.out.trans HS1.symm)
          have he3 : Hid (gerr room D ≠ 0) := Lib.hid (by rw [he2.out]; exact hle)
          have hne : ((lerr s.base s.next s.l : Int) != 0) = true := by simpa using hle
          clear HSG HS1
          go_wp2_with fail
          go_region_held3 (fun w' => w'.cell? ⟨b, k * 3, none⟩ = some (.int .i64 s.base) ∧ w'.cell? ⟨b, k * 3 + 1, none⟩ = some (.int .i64 s.next) ∧ w'.cell? ⟨b, k * 3 + 2, none⟩ = some (.slice la s.l.length lc)) (go_keep) (first | (go_at_call 34; refine (cL.out _ (by assumption)).use ?_; intro w1 b1; have hb1 := below_any (Nat.le_refl _) D0 b1; have x0 := (hb1.cell (p := ⟨b, k * 3, none⟩) hltr).trans c0; have x1 := (hb1.cell (p := ⟨b, k * 3 + 1, none⟩) hltr).trans c1; have x2 := (hb1.cell (p := ⟨b, k * 3 + 2, none⟩) hltr).trans c2))
          all_goals go_wp2_with fail
          all_goals go_ret2
          all_goals exact .inr ⟨he3.out, by rw [he2.out]; rfl, below_any (Nat.le_refl _) hnx hb1⟩
      · have j1 : ¬ (k : Int) < (D.length : Int) := by omega
        have hk2 : k = D.length := by omega
        subst hk2
        rw [List.take_length] at hL
        have he : Hid (gerr room D = 0) := Lib.hid (by rw [HGE.out, ← hsc.out, List.drop_length]; rfl)
        go_wp2_with fail
        go_ret2
        refine .inl ⟨he.out, w.heap.size, ?_⟩
        first | exact ⟨cs, rfl, hL, hnx, hcs⟩ | exact ⟨rfl, cs, hL, hnx, hcs⟩
end Go.Proofs.Ytkfglnhapcceaaa
