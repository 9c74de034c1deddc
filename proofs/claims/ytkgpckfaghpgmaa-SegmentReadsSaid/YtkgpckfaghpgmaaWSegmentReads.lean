/-
  The walk of SegmentReads.
-/
import Derived.Test.YtkgpckfaghpgmaaSegV
set_option linter.unusedVariables false
set_option linter.unusedSimpArgs false
namespace Go.Proofs.Ytkgpckfaghpgmaa.segmentReads
open Go.RowKit
attribute [local go_sem] ByteArray.extract_mk ByteArray.mk_append_mk

/-- Records v, their offsets rising, none beyond last. -/
structure Good (m : List Fnd) (last : Int) : Prop where
  ris : ∀ i j, (hi : i < j) → (hj : j < m.length) → (m[i]'(by omega)).off < m[j].off
  mem : ∀ f ∈ m, 0 ≤ f.off ∧ f.off < 1099511627776 ∧ f.off ≤ last ∧ f.r = rv
  len : m.length ≤ 64
  lo : -1 ≤ last ∧ last < 1099511627776
theorem Good.nil : Good [] (-1) := ⟨fun i j hi hj => by simp at hj, by simp, by simp, by omega⟩
theorem Good.snoc {m : List Fnd} {last x : Int} (h : Good m last) (h1 : last < x) (h2 : x < 1099511627776) (h3 : m.length < 64) : Good (m ++ [⟨x, rv⟩]) x := by
  refine ⟨fun i j hi hj => ?_, fun f hf => ?_, by simp; omega, by have := h.lo; omega⟩
  · by_cases hjm : j < m.length
    · rw [List.getElem_append_left (by omega), List.getElem_append_left hjm]
      exact h.ris i j hi hjm
    · have hj2 : j = m.length := by simp at hj; omega
      subst hj2
      rw [List.getElem_append_left hi, List.getElem_append_right (by omega)]
      have := (h.mem _ (List.getElem_mem hi)).2.2.1
      simp
      omega
  · rcases List.mem_append.1 hf with hf | hf
    · have := h.mem f hf
      exact ⟨this.1, this.2.1, by omega, this.2.2.2⟩
    · simp only [List.mem_singleton] at hf
      subst hf
      have := h.lo
      exact ⟨by show (0 : Int) ≤ x; omega, h2, by show x ≤ x; omega, rfl⟩
theorem order_good : ∀ {m : List Fnd} {last next : Int}, (∀ i j, (hi : i < j) → (hj : j < m.length) → (m[i]'(by omega)).off < m[j].off) → (∀ f ∈ m, last < f.off ∧ f.off < next) → inOrder last next m = true
  | [], _, _, _, _ => rfl
  | f :: m, last, next, hr, hm => by
    have h0 := hm f (by simp)
    have ih := order_good (m := m) (last := f.off) (next := next) (fun i j hi hj => by
      have := hr (i + 1) (j + 1) (by omega) (by simpa using hj)
      simpa using this) (fun g hg => by
      obtain ⟨i, hi, rfl⟩ := List.getElem_of_mem hg
      have h1 := hr 0 (i + 1) (by omega) (by simpa using hi)
      simp only [List.getElem_cons_zero, List.getElem_cons_succ] at h1
      exact ⟨h1, (hm _ (List.mem_cons_of_mem _ (List.getElem_mem hi))).2⟩)
    unfold inOrder
    rw [decide_eq_true h0.1, decide_eq_true h0.2, ih]
    rfl
theorem checks_rv : ∀ {l : List Fnd}, (∀ f ∈ l, f.r = rv) → rchecks (l.map Fnd.r) = 0
  | [], _ => rfl
  | f :: l, h => by
    have h0 := h f (by simp)
    rw [List.map_cons, h0]
    unfold rchecks
    rw [if_pos (show rv.ok = 0 by decide +kernel)]
    exact checks_rv fun g hg => h g (by simp [hg])
theorem Good.lerr {m : List Fnd} {last : Int} (h : Good m last) : lerr 0 1099511627776 m = 0 := by
  unfold Go.Proofs.Ytkgpckfaghpgmaa.lerr
  have h1 := h.len
  rw [if_neg (by simp [numB]; omega), if_neg (by rw [order_good h.ris fun f hf => ⟨by have := (h.mem f hf).1; omega, (h.mem f hf).2.1⟩]; simp)]
  exact checks_rv fun f hf => (h.mem f hf).2.2.2
theorem Good.bd {m : List Fnd} {last : Int} (h : Good m last) : ∀ f ∈ m, RecBd f.r := fun f hf => by
  rw [(h.mem f hf).2.2.2]
  exact ⟨by unfold maxLen; decide, by unfold maxLen; decide⟩
theorem load_good {m : List Fnd} {last : Int} (h : Good m last) (v : Value) (w : World) (hv : FndsIn w v m) : SegNew 9 #[.int .i64 0, .int .i64 1099511627776, v] w 0 1099511627776 m := by
  refine (load5 0 1099511627776 v m w hv (by have := h.len; omega) h.bd).mono fun x w' hx => ?_
  rcases hx with ⟨_, p, bs, h1, h2, h3, h4⟩ | ⟨h1, _⟩
  · exact ⟨p, bs, h1, h2, h3, h4⟩
  · exact absurd h.lerr h1

theorem reads_0 (m : List Fnd) : reads 0 0 m = [] := by
  unfold reads
  rw [show (max 0 (min (0 : Int) ((m.drop (place 0 m)).length : Int))).toNat = 0 by omega, List.take_zero]
theorem reads_m (m : List Fnd) : reads 0 (-1) m = [] := by
  unfold reads
  rw [show (max 0 (min (-1 : Int) ((m.drop (place 0 m)).length : Int))).toNat = 0 by omega, List.take_zero]
theorem Good.reads {m : List Fnd} {last : Int} (h : Good m last) : reads (-5) 99 m = m := by
  have hp : place (-5) m = 0 := place_eq (by omega) (fun j h => by omega) (fun hl => by have := (h.mem _ (List.getElem_mem hl)).1; omega)
  have := h.len
  unfold Go.Proofs.Ytkgpckfaghpgmaa.reads
  rw [hp, List.drop_zero, show (max 0 (min (99 : Int) (m.length : Int))).toNat = m.length by omega, List.take_length]

set_option maxHeartbeats 4000000 in
set_option maxRecDepth 100000 in
theorem walk {w : World} (v : Value) (l : List Fnd) (n : Int) (hv : FndsIn w v l) (hl : l.length ≤ maxLen ∧ ∀ f ∈ l, RecBd f.r ∧ (Lit.int .i64 f.off).wf = true) (hn : -9223372036854775808 ≤ n ∧ n ≤ 9223372036854775807) :
    RetB Try.prog 3 #[v, .int .i64 n] w (.bool true) := by
  refine RetB.intro fun R hR => ?_
  obtain ⟨q, hq, hq2⟩ : ∃ q : Nat, bits .and .i64 n 7 = (q : Int) ∧ q < 8 := ⟨_, and_low n 7 3 rfl (by omega), Nat.mod_lt _ (by decide)⟩
  have cv := fun w => v5 w
  have HV := Lib.hid hv
  have hll : l.length ≤ 9223372036854775807 := by have := hl.1; unfold maxLen at this; omega
  obtain ⟨a, cap, rfl⟩ := hv.form
  obtain ⟨i0, hi0, hz0, hz1, hz2⟩ := info_parts fndInfo
  have o0 : (w.alloc (.cells #[] 26)).ownsRow w.heap.size 26 5 (.slice (some ⟨w.heap.size, 0, none⟩) 0 0) 0 [] := World.ownsRow_made w #[] 0 (Nat.le_refl _) (by omega) rfl
  clear hv hl
  go_enter Try.func3, Try.ntmps3
  go_wp2_with fail
  go_loopw [5, 6, 7] (fun (v5 v6 v7 : Value) (W : World) => ∃ (j : Nat) (m : List Fnd) (last : Int) (ma : Option Addr) (mc : Nat), v5 = .slice ma m.length mc ∧ v6 = .int .i64 last ∧ v7 = .int .i64 (j : Int) ∧ j ≤ l.length ∧ Good m last ∧ W.ownsRow w.heap.size 26 5 (.slice ma m.length mc) m.length (m.flatMap Fnd.cells) ∧ Below w.heap.size w W) (fun (v5 v6 v7 : Value) (W : World) => (l.length - intOf v7).toNat)
  case atStart => exact ⟨0, [], -1, _, _, rfl, rfl, rfl, by omega, Good.nil, o0, below_all (Below.refl _ _)⟩
  case round =>
    obtain ⟨j, m, last, ma, mc, rfl, rfl, rfl, hj, hG, hown, hnx⟩ := hrel
    have hm64 := hG.len
    have hlo := hG.lo
    by_cases hgo : j < l.length ∧ m.length < 64
    · obtain ⟨hjl, hml⟩ := hgo
      rcases HV.out.below hnx with ⟨h, _⟩ | ⟨b, off, cap2, hsl, hcap2, hne, hlt, hc⟩
      · rw [h] at hjl; simp at hjl
      simp only [Value.slice.injEq, true_and] at hsl
      obtain ⟨rfl, rfl⟩ := hsl
      obtain ⟨x0, x1, x2, x3, x4⟩ := hc j hjl
      have hj1 : (0 : Int) ≤ (j : Int) := by omega
      have hj2 : (j : Int) < (l.length : Int) := by omega
      have hm2 : (m.length : Int) < 64 := by omega
      clear hc hne x1 x2 x3 x4
      generalize l[j] = f at *
      by_cases h1 : last < f.off
      · by_cases h2 : f.off < 1099511627776
        · go_wp2_with fail
          refine (cv _).use ?_
          intro w2 B2
          have hn2 := below_any (Nat.le_refl _) hnx B2
          have o2 := own_keptBy hown (Kept.ofBelow B2 []) (away_nil _)
          have o3 := World.ownsRow.alloc o2 (.cells #[.int .i64 f.off, .bool false, .string (S []), .bool false, .string (S [118])] 26)
          have hsz := hn2.size
          have nf := news_fnd (W := w2) (⟨f.off, rv⟩ : Fnd) rfl
          have hG2 := hG.snoc h1 h2 hml
          go_wp2_with (at_builtin; refine wpList_append_own _ rfl _ _ 22 rfl w.heap.size 26 i0 _ 5 56 Try.underlying22 hi0 hz0 hz1 hz2 rfl (by decide) _ _ _ rfl o3 ⟨w2.heap.size, 0, none⟩ 1 1 (⟨f.off, rv⟩ : Fnd).cells rfl rfl nf (by simp [Value.oneCell', Fnd.cells, Rec.cells]) (by unfold maxLen; omega) (by omega) (by simp; omega) ?_)
          intro v7 w7 o7 g7 _
          have G7 := Kept.below (below_all (o := .cells #[.int .i64 f.off, .bool false, .string (S []), .bool false, .string (S [118])] 26) hn2) (Kept.ofGrown g7) (by intro x hx; simp only [Option.mem_toList] at hx; exact (o3.lt x hx).1) (by simp; omega)
          obtain ⟨va, vc, rfl⟩ := own_form o7
          clear g7 o3 o2 hown nf
          go_wp2_with fail
          go_roundw
          case rel => exact ⟨j + 1, m ++ [⟨f.off, rv⟩], f.off, va, vc, by simp, rfl, by go_num, by omega, hG2, by rw [List.flatMap_append, List.length_append]; simpa using o7, G7⟩
          case measure => simp [intOf]; omega
        · go_wp2_with fail
          go_roundw
          case rel => exact ⟨j + 1, m, last, ma, mc, rfl, rfl, by go_num, by omega, hG, hown, hnx⟩
          case measure => simp [intOf]; omega
      · go_wp2_with fail
        go_roundw
        case rel => exact ⟨j + 1, m, last, ma, mc, rfl, rfl, by go_num, by omega, hG, hown, hnx⟩
        case measure => simp [intOf]; omega
    · rcases (show ¬ (j < l.length) ∨ (j < l.length ∧ ¬ (m.length < 64)) by omega) with hgn | ⟨hgn, hgm⟩
      · skip
        have cLd := Lib.hid (load_good hG _ _ (fnds_own hown))
        have hMi := fnds_own hown
        go_wp2_with fail
        refine cLd.out.use ?_
        intro p b1 w3 S3 B3 N3
        have M3 := hMi.below B3
        have G3 := below_any (Nat.le_refl _) hnx B3
        have hris : Rising m := hG.ris
        have HG := Lib.hid hG
        have o4 : (w3.alloc (.cells #[] 26)).ownsRow w3.heap.size 26 5 (.slice (some ⟨w3.heap.size, 0, none⟩) 0 0) 0 [] := World.ownsRow_made w3 #[] 0 (Nat.le_refl _) (by omega) rfl
        have e1 : IntKind.i64.wrap ((1 : Int) + (q : Int)) = (1 : Int) + (q : Int) := by rw [IntKind.wrap_i64]; omega
        have hp0 : place 0 m = 0 := place_eq (by omega) (fun j h => by omega) (fun h => by have := (hG.mem _ (List.getElem_mem h)).1; omega)
        clear cLd hMi hown hnx hG B3 o0
        go_wp2_with fail
        clear e1
        go_loopw [11, 12, 13, 14] (fun (v11 v12 v13 v14 : Value) (W : World) => ∃ (i c : Nat) (at_ : Int) (aa : Option Addr) (ac : Nat), v11 = .int .i64 at_ ∧ v12 = .slice aa c ac ∧ v13 = .int .i64 (i : Int) ∧ i ≤ c ∧ c ≤ m.length ∧ Hid (place at_ m = c) ∧ W.ownsRow w3.heap.size 26 5 (.slice aa c ac) c ((m.take c).flatMap Fnd.cells) ∧ Below w3.heap.size w3 W) (fun (v11 v12 v13 v14 : Value) (W : World) => (65 - intOf v13).toNat)
        case atStart => exact ⟨0, 0, 0, _, _, rfl, rfl, rfl, by omega, by omega, hp0, by simpa using o4, below_all (Below.refl _ _)⟩
        case round =>
          obtain ⟨i, c, at_, aa, ac, rfl, rfl, rfl, hic, hcm, hpl, hown, hny⟩ := hrel
          have hi65 : (i : Int) < 65 := by omega
          have S4 := S3.below hny
          have M4 := M3.below hny
          have G4 := below_any (Nat.le_refl _) G3 hny
          have cR := read5 p b1 0 1099511627776 m at_ ((1 : Int) + (q : Int)) wr S4 hris (by omega)
          have hdl : (m.drop c).length = m.length - c := List.length_drop ..
          obtain ⟨xl, hxl⟩ : ∃ xl, (max 0 (min ((1 : Int) + (q : Int)) ((m.drop (place at_ m)).length : Int))).toNat = xl := ⟨_, rfl⟩
          have hxd : reads at_ ((1 : Int) + (q : Int)) m = (m.drop c).take xl := by
            unfold reads
            rw [hxl, hpl.out]
          rw [hpl.out, hdl] at hxl
          have hXl : ((m.drop c).take xl).length = xl := by rw [List.length_take, hdl]; omega
          rw [hxd] at cR
          have CR := Lib.hid cR
          have hx1 : xl ≤ 1 + q := by omega
          have hx2 : xl ≤ m.length - c := by omega
          have hx3 : c < m.length → 0 < xl := by omega
          have hxt : m.take c ++ (m.drop c).take xl = m.take (c + xl) := by rw [← List.take_add]
          clear cR hxl hxd
          by_cases hcl : c < m.length
          · have hxp := hx3 hcl
            clear hx3
            go_wp2_with fail
            refine CR.out.use ?_
            intro vx w5 O5 B5
            have hown5 := own_keptBy hown (Kept.ofBelow B5 []) (away_nil _)
            have X5 := fnds_own O5
            rcases X5 with ⟨h, _⟩ | ⟨bx, ox, cx, rfl, hcx, hxne, hltx, hxc⟩
            · rw [h] at hXl; simp at hXl; omega
            have hxc2 := hxc (xl - 1) (by omega)
            obtain ⟨y0, y1, y2, y3, y4⟩ := hxc2
            have hlast : ((m.drop c).take xl)[xl - 1]'(by omega) = m[c + xl - 1]'(by omega) := by
              rw [List.getElem_take, List.getElem_drop]
              congr 1
              omega
            rw [hlast] at y0
            obtain ⟨z, hz⟩ : ∃ z, (m[c + xl - 1]'(by omega)).off = z := ⟨_, rfl⟩
            have hzb := HG.out.mem _ (List.getElem_mem (show c + xl - 1 < m.length by omega))
            rw [hz] at y0 hzb
            have hzb1 : 0 ≤ z ∧ z < 1099511627776 := ⟨hzb.1, hzb.2.1⟩
            clear hzb
            have hpn : Hid (place (z + 1) m = c + xl) := Lib.hid (place_eq (by omega) (fun j h h' => by
              by_cases e : j = c + xl - 1
              · subst e; omega
              · have := hris j (c + xl - 1) (by omega) (by omega)
                omega) (fun h => by
              have := hris (c + xl - 1) (c + xl) (by omega) h
              omega))
            have hnn := fnews_at hxc
            have nl := fcells_len ((m.drop c).take xl)
            have G5 := below_any (Nat.le_refl _) hny B5
            have HXT := Lib.hid hxt
            have HXL := Lib.hid hXl
            rw [hXl] at hcx nl
            obtain ⟨X, hX⟩ : ∃ X, (m.drop c).take xl = X := ⟨_, rfl⟩
            rw [hX] at hnn nl HXT HXL
            simp only [hX]
            have t1 : ((1 : Int) + (q : Int) < (xl : Int)) = False := eq_false (by omega)
            have t2 : ((xl : Int) == 0) = false := by simp; omega
            have t3 : (xl == 0) = false := by simp; omega
            obtain ⟨y, hy⟩ : ∃ y, xl - 1 = y := ⟨_, rfl⟩
            rw [hy] at y0
            have e2 : IntKind.i64.wrap ((xl : Int) - 1) = (y : Int) := by rw [IntKind.wrap_i64]; omega
            have e3 : IntKind.i64.wrap (z + 1) = z + 1 := by rw [IntKind.wrap_i64]; omega
            have i1 : (0 : Int) ≤ (y : Int) := by omega
            have i2 : (y : Int) < (xl : Int) := by omega
            have hawx : ∀ b, (Value.slice aa c ac).ownBlock = some b → b ≠ bx := fun b hb e => by
              have h1 := own_lt hown b hb
              have h2 := (O5.lt bx rfl).1
              omega
            have hsz5 := G5.size
            rw [HXL.out]
            clear y1 y2 y3 y4 hX hlast hz hown O5 CR hxt hXl hpl hdl M4 S4 hy
            have hxp := Lib.hid hxp
            go_wp2_with (at_builtin; refine wpList_append_own _ rfl _ _ 22 rfl w3.heap.size 26 i0 _ 5 56 Try.underlying22 hi0 hz0 hz1 hz2 rfl (by decide) _ _ _ rfl hown5 ⟨bx, ox, none⟩ xl cx (X.flatMap Fnd.cells) rfl nl hnn (fcells_one _) (by unfold maxLen; omega) (by omega) (by omega) ?_)
            intro v6 w6 o6 g6 _
            have K6 := Kept.ofGrown g6
            have y6 := (K6.cell hltx (fun hm => by simp only [Option.mem_toList] at hm; exact hawx bx hm rfl) (ox + y * 5)).trans y0
            have G6 := Kept.below G5 K6 (by intro x hx; simp only [Option.mem_toList] at hx; exact (hown5.lt x hx).1) hsz5
            have o6 : w6.ownsRow w3.heap.size 26 5 v6 (c + xl) ((m.take (c + xl)).flatMap Fnd.cells) := by rw [← HXT.out, List.flatMap_append]; exact o6
            obtain ⟨va, vc, rfl⟩ := own_form o6
            have hlt6 : bx < w6.heap.size := Nat.lt_of_lt_of_le hltx K6.size
            clear g6 K6 hown5 hnn nl y0 G5 hltx hawx hcx
            go_wp2_with fail
            go_roundw
            case rel => exact ⟨i + 1, c + xl, z + 1, va, vc, by go_num, by simp, by go_num, by omega, by omega, hpn, o6, G6⟩
            case measure => simp [intOf]; omega
          · obtain rfl : c = m.length := by omega
            have hx0 : xl = 0 := by omega
            subst hx0
            rw [List.take_zero] at CR
            rw [List.take_length] at hown
            have hA := fnds_own hown
            have t1 : ((1 : Int) + (q : Int) < 0) = False := eq_false (by omega)
            have hml : m.length ≤ 64 := hm64
            clear hx3 hxt hXl hdl hpl
            go_wp2_with fail
            refine CR.out.use ?_
            intro vx w5 O5 B5
            obtain ⟨xa, xc, rfl⟩ := own_form (n := 0) O5
            have S5 := S4.below B5
            have M5 := M4.below B5
            have A5 := hA.below B5
            have G5 := below_any (Nat.le_refl _) G4 B5
            have cF := Lib.hid ((found5 _ _ m m w5 A5 M5 (by omega) (by omega)).cast (v' := .bool true) (by simp))
            clear O5 B5 S4 M4 hA hown hny G4 CR
            go_wp2_with fail
            have c0 := Lib.hid (fun w hS => reads_0 m ▸ read5 p b1 0 1099511627776 m 0 0 w hS hris (by omega))
            have c1 := Lib.hid (fun w hS => reads_m m ▸ read5 p b1 0 1099511627776 m 0 (-1) w hS hris (by omega))
            have c2 := Lib.hid (fun w hS => HG.out.reads ▸ read5 p b1 0 1099511627776 m (-5) 99 w hS hris (by omega))
            refine cF.out.use ?_
            intro w6 B6
            have S6 := S5.below B6
            have M6 := M5.below B6
            have G6 := below_any (Nat.le_refl _) G5 B6
            clear cF S5 M5 G5 B6 A5
            go_wp2_with fail
            refine (c0.out _ S6).use ?_
            intro v7 w7 O7 B7
            obtain ⟨xa7, xc7, rfl⟩ := own_form (n := 0) O7
            have S7 := S6.below B7
            have M7 := M6.below B7
            have G7 := below_any (Nat.le_refl _) G6 B7
            clear O7 S6 M6 G6 B7
            go_wp2_with fail
            refine (c1.out _ S7).use ?_
            intro v8 w8 O8 B8
            obtain ⟨xa8, xc8, rfl⟩ := own_form (n := 0) O8
            have S8 := S7.below B8
            have M8 := M7.below B8
            have G8 := below_any (Nat.le_refl _) G7 B8
            clear O8 S7 M7 G7 B8
            go_wp2_with fail
            refine (c2.out _ S8).use ?_
            intro v9 w9 O9 B9
            have M9 := M8.below B9
            have G9 := below_any (Nat.le_refl _) G8 B9
            have cF := Lib.hid ((found5 v9 _ m m w9 (fnds_own O9) M9 (by omega) (by omega)).cast (v' := .bool true) (by simp))
            clear S8 M8 G8 B9
            go_wp2_with fail
            refine cF.out.use ?_
            intro w10 B10
            go_wp2_with fail
            refine (fixed5 _).use ?_
            intro w11 B11
            go_wp2_with fail
            exact finB hR (below_any (Nat.le_refl _) (below_any (Nat.le_refl _) G9 B10) B11) rfl
      · skip
        have cLd := Lib.hid (load_good hG _ _ (fnds_own hown))
        have hMi := fnds_own hown
        go_wp2_with fail
        refine cLd.out.use ?_
        intro p b1 w3 S3 B3 N3
        have M3 := hMi.below B3
        have G3 := below_any (Nat.le_refl _) hnx B3
        have hris : Rising m := hG.ris
        have HG := Lib.hid hG
        have o4 : (w3.alloc (.cells #[] 26)).ownsRow w3.heap.size 26 5 (.slice (some ⟨w3.heap.size, 0, none⟩) 0 0) 0 [] := World.ownsRow_made w3 #[] 0 (Nat.le_refl _) (by omega) rfl
        have e1 : IntKind.i64.wrap ((1 : Int) + (q : Int)) = (1 : Int) + (q : Int) := by rw [IntKind.wrap_i64]; omega
        have hp0 : place 0 m = 0 := place_eq (by omega) (fun j h => by omega) (fun h => by have := (hG.mem _ (List.getElem_mem h)).1; omega)
        clear cLd hMi hown hnx hG B3 o0
        go_wp2_with fail
        clear e1
        go_loopw [11, 12, 13, 14] (fun (v11 v12 v13 v14 : Value) (W : World) => ∃ (i c : Nat) (at_ : Int) (aa : Option Addr) (ac : Nat), v11 = .int .i64 at_ ∧ v12 = .slice aa c ac ∧ v13 = .int .i64 (i : Int) ∧ i ≤ c ∧ c ≤ m.length ∧ Hid (place at_ m = c) ∧ W.ownsRow w3.heap.size 26 5 (.slice aa c ac) c ((m.take c).flatMap Fnd.cells) ∧ Below w3.heap.size w3 W) (fun (v11 v12 v13 v14 : Value) (W : World) => (65 - intOf v13).toNat)
        case atStart => exact ⟨0, 0, 0, _, _, rfl, rfl, rfl, by omega, by omega, hp0, by simpa using o4, below_all (Below.refl _ _)⟩
        case round =>
          obtain ⟨i, c, at_, aa, ac, rfl, rfl, rfl, hic, hcm, hpl, hown, hny⟩ := hrel
          have hi65 : (i : Int) < 65 := by omega
          have S4 := S3.below hny
          have M4 := M3.below hny
          have G4 := below_any (Nat.le_refl _) G3 hny
          have cR := read5 p b1 0 1099511627776 m at_ ((1 : Int) + (q : Int)) wr S4 hris (by omega)
          have hdl : (m.drop c).length = m.length - c := List.length_drop ..
          obtain ⟨xl, hxl⟩ : ∃ xl, (max 0 (min ((1 : Int) + (q : Int)) ((m.drop (place at_ m)).length : Int))).toNat = xl := ⟨_, rfl⟩
          have hxd : reads at_ ((1 : Int) + (q : Int)) m = (m.drop c).take xl := by
            unfold reads
            rw [hxl, hpl.out]
          rw [hpl.out, hdl] at hxl
          have hXl : ((m.drop c).take xl).length = xl := by rw [List.length_take, hdl]; omega
          rw [hxd] at cR
          have CR := Lib.hid cR
          have hx1 : xl ≤ 1 + q := by omega
          have hx2 : xl ≤ m.length - c := by omega
          have hx3 : c < m.length → 0 < xl := by omega
          have hxt : m.take c ++ (m.drop c).take xl = m.take (c + xl) := by rw [← List.take_add]
          clear cR hxl hxd
          by_cases hcl : c < m.length
          · have hxp := hx3 hcl
            clear hx3
            go_wp2_with fail
            refine CR.out.use ?_
            intro vx w5 O5 B5
            have hown5 := own_keptBy hown (Kept.ofBelow B5 []) (away_nil _)
            have X5 := fnds_own O5
            rcases X5 with ⟨h, _⟩ | ⟨bx, ox, cx, rfl, hcx, hxne, hltx, hxc⟩
            · rw [h] at hXl; simp at hXl; omega
            have hxc2 := hxc (xl - 1) (by omega)
            obtain ⟨y0, y1, y2, y3, y4⟩ := hxc2
            have hlast : ((m.drop c).take xl)[xl - 1]'(by omega) = m[c + xl - 1]'(by omega) := by
              rw [List.getElem_take, List.getElem_drop]
              congr 1
              omega
            rw [hlast] at y0
            obtain ⟨z, hz⟩ : ∃ z, (m[c + xl - 1]'(by omega)).off = z := ⟨_, rfl⟩
            have hzb := HG.out.mem _ (List.getElem_mem (show c + xl - 1 < m.length by omega))
            rw [hz] at y0 hzb
            have hzb1 : 0 ≤ z ∧ z < 1099511627776 := ⟨hzb.1, hzb.2.1⟩
            clear hzb
            have hpn : Hid (place (z + 1) m = c + xl) := Lib.hid (place_eq (by omega) (fun j h h' => by
              by_cases e : j = c + xl - 1
              · subst e; omega
              · have := hris j (c + xl - 1) (by omega) (by omega)
                omega) (fun h => by
              have := hris (c + xl - 1) (c + xl) (by omega) h
              omega))
            have hnn := fnews_at hxc
            have nl := fcells_len ((m.drop c).take xl)
            have G5 := below_any (Nat.le_refl _) hny B5
            have HXT := Lib.hid hxt
            have HXL := Lib.hid hXl
            rw [hXl] at hcx nl
            obtain ⟨X, hX⟩ : ∃ X, (m.drop c).take xl = X := ⟨_, rfl⟩
            rw [hX] at hnn nl HXT HXL
            simp only [hX]
            have t1 : ((1 : Int) + (q : Int) < (xl : Int)) = False := eq_false (by omega)
            have t2 : ((xl : Int) == 0) = false := by simp; omega
            have t3 : (xl == 0) = false := by simp; omega
            obtain ⟨y, hy⟩ : ∃ y, xl - 1 = y := ⟨_, rfl⟩
            rw [hy] at y0
            have e2 : IntKind.i64.wrap ((xl : Int) - 1) = (y : Int) := by rw [IntKind.wrap_i64]; omega
            have e3 : IntKind.i64.wrap (z + 1) = z + 1 := by rw [IntKind.wrap_i64]; omega
            have i1 : (0 : Int) ≤ (y : Int) := by omega
            have i2 : (y : Int) < (xl : Int) := by omega
            have hawx : ∀ b, (Value.slice aa c ac).ownBlock = some b → b ≠ bx := fun b hb e => by
              have h1 := own_lt hown b hb
              have h2 := (O5.lt bx rfl).1
              omega
            have hsz5 := G5.size
            rw [HXL.out]
            clear y1 y2 y3 y4 hX hlast hz hown O5 CR hxt hXl hpl hdl M4 S4 hy
            have hxp := Lib.hid hxp
            go_wp2_with (at_builtin; refine wpList_append_own _ rfl _ _ 22 rfl w3.heap.size 26 i0 _ 5 56 Try.underlying22 hi0 hz0 hz1 hz2 rfl (by decide) _ _ _ rfl hown5 ⟨bx, ox, none⟩ xl cx (X.flatMap Fnd.cells) rfl nl hnn (fcells_one _) (by unfold maxLen; omega) (by omega) (by omega) ?_)
            intro v6 w6 o6 g6 _
            have K6 := Kept.ofGrown g6
            have y6 := (K6.cell hltx (fun hm => by simp only [Option.mem_toList] at hm; exact hawx bx hm rfl) (ox + y * 5)).trans y0
            have G6 := Kept.below G5 K6 (by intro x hx; simp only [Option.mem_toList] at hx; exact (hown5.lt x hx).1) hsz5
            have o6 : w6.ownsRow w3.heap.size 26 5 v6 (c + xl) ((m.take (c + xl)).flatMap Fnd.cells) := by rw [← HXT.out, List.flatMap_append]; exact o6
            obtain ⟨va, vc, rfl⟩ := own_form o6
            have hlt6 : bx < w6.heap.size := Nat.lt_of_lt_of_le hltx K6.size
            clear g6 K6 hown5 hnn nl y0 G5 hltx hawx hcx
            go_wp2_with fail
            go_roundw
            case rel => exact ⟨i + 1, c + xl, z + 1, va, vc, by go_num, by simp, by go_num, by omega, by omega, hpn, o6, G6⟩
            case measure => simp [intOf]; omega
          · obtain rfl : c = m.length := by omega
            have hx0 : xl = 0 := by omega
            subst hx0
            rw [List.take_zero] at CR
            rw [List.take_length] at hown
            have hA := fnds_own hown
            have t1 : ((1 : Int) + (q : Int) < 0) = False := eq_false (by omega)
            have hml : m.length ≤ 64 := hm64
            clear hx3 hxt hXl hdl hpl
            go_wp2_with fail
            refine CR.out.use ?_
            intro vx w5 O5 B5
            obtain ⟨xa, xc, rfl⟩ := own_form (n := 0) O5
            have S5 := S4.below B5
            have M5 := M4.below B5
            have A5 := hA.below B5
            have G5 := below_any (Nat.le_refl _) G4 B5
            have cF := Lib.hid ((found5 _ _ m m w5 A5 M5 (by omega) (by omega)).cast (v' := .bool true) (by simp))
            clear O5 B5 S4 M4 hA hown hny G4 CR
            go_wp2_with fail
            have c0 := Lib.hid (fun w hS => reads_0 m ▸ read5 p b1 0 1099511627776 m 0 0 w hS hris (by omega))
            have c1 := Lib.hid (fun w hS => reads_m m ▸ read5 p b1 0 1099511627776 m 0 (-1) w hS hris (by omega))
            have c2 := Lib.hid (fun w hS => HG.out.reads ▸ read5 p b1 0 1099511627776 m (-5) 99 w hS hris (by omega))
            refine cF.out.use ?_
            intro w6 B6
            have S6 := S5.below B6
            have M6 := M5.below B6
            have G6 := below_any (Nat.le_refl _) G5 B6
            clear cF S5 M5 G5 B6 A5
            go_wp2_with fail
            refine (c0.out _ S6).use ?_
            intro v7 w7 O7 B7
            obtain ⟨xa7, xc7, rfl⟩ := own_form (n := 0) O7
            have S7 := S6.below B7
            have M7 := M6.below B7
            have G7 := below_any (Nat.le_refl _) G6 B7
            clear O7 S6 M6 G6 B7
            go_wp2_with fail
            refine (c1.out _ S7).use ?_
            intro v8 w8 O8 B8
            obtain ⟨xa8, xc8, rfl⟩ := own_form (n := 0) O8
            have S8 := S7.below B8
            have M8 := M7.below B8
            have G8 := below_any (Nat.le_refl _) G7 B8
            clear O8 S7 M7 G7 B8
            go_wp2_with fail
            refine (c2.out _ S8).use ?_
            intro v9 w9 O9 B9
            have M9 := M8.below B9
            have G9 := below_any (Nat.le_refl _) G8 B9
            have cF := Lib.hid ((found5 v9 _ m m w9 (fnds_own O9) M9 (by omega) (by omega)).cast (v' := .bool true) (by simp))
            clear S8 M8 G8 B9
            go_wp2_with fail
            refine cF.out.use ?_
            intro w10 B10
            go_wp2_with fail
            refine (fixed5 _).use ?_
            intro w11 B11
            go_wp2_with fail
            exact finB hR (below_any (Nat.le_refl _) (below_any (Nat.le_refl _) G9 B10) B11) rfl
end Go.Proofs.Ytkgpckfaghpgmaa.segmentReads
