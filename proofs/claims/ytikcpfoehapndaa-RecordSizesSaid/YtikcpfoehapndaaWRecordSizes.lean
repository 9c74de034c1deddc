/-
  The walk of RecordSizes.
-/
import Derived.Test.YtikcpfoehapndaaFix3
import Derived.Test.YtikcpfoehapndaaRecS
import Derived.Test.YtikcpfoehapndaaRecU
import Derived.Deep.RegionHeld3
set_option linter.unusedVariables false
set_option linter.unusedSimpArgs false
namespace Go.Proofs.Ytikcpfoehapndaa.recordSizes
open Go.RowKit
attribute [local go_sem] ByteArray.extract_mk ByteArray.mk_append_mk

theorem cutRs_bd {l : List Rec} (h : RecsBd l) : RecsBd (cutRs l) := by
  refine ⟨by unfold cutRs; rw [List.length_map, List.length_take]; have := h.1; omega, fun r hr => ?_⟩
  unfold cutRs at hr
  simp only [List.mem_map] at hr
  obtain ⟨r', _, rfl⟩ := hr
  exact ⟨by simp only [cutR, List.length_take]; unfold maxLen; omega, by simp only [cutR, List.length_take]; unfold maxLen; omega⟩
theorem ok_bd {p q r : Int} {l : List Rec} (h : rall p q r l = 0) : RecsBd l := by
  obtain ⟨_, _, _, _, h5, h6⟩ := rall_ok h
  refine ⟨by unfold maxLen; omega, fun r hr => ?_⟩
  obtain ⟨_, _, _, h1, h2⟩ := rcheck_ok (h6 r hr)
  exact ⟨by unfold maxLen; omega, by unfold maxLen; omega⟩
theorem bytes_le {p q r : Int} {l : List Rec} (h : rall p q r l = 0) : (rbatch p q r l).1.length ≤ 40000 := by
  obtain ⟨_, _, _, _, h5, h6⟩ := rall_ok h
  unfold rbatch
  rw [if_pos h]
  have a := rbytes_le h6
  have b := nbytes_le [p.toNat, q.toNat, r.toNat, l.length]
  simp only [List.length_append, List.length_cons, List.length_nil] at b ⊢
  omega


theorem sz_mono {n k : Nat} (h : n < 2 ^ (7 * k)) (hk : k ≤ 6) (hk1 : 1 ≤ k) : (vput n).length ≤ k := by
  have a := vput_mono (a := n) (b := 2 ^ (7 * k) - 1) (by have : 2 ^ (7 * k) ≤ 2 ^ 42 := Nat.pow_le_pow_right (by omega) (by omega); omega) (by omega)
  have c : (vput (2 ^ (7 * k) - 1)).length ≤ k := by
    have : ∀ k : Fin 7, 1 ≤ k.val → (vput (2 ^ (7 * k.val) - 1)).length ≤ k.val := by decide +kernel
    exact this ⟨k, by omega⟩ hk1
  omega
theorem text_sz {r : Rec} (h : r.ok = 0) : 2 ≤ r.text.length ∧ r.text.length ≤ 580 := by
  obtain ⟨o1, o2, o3, o4, o5⟩ := rcheck_ok h
  have a := vput_pos r.key.length
  have b := vput_pos r.val.length
  have c := sz_mono (n := r.key.length) (k := 1) (by omega) (by omega) (by omega)
  have d := sz_mono (n := r.val.length) (k := 2) (by omega) (by omega) (by omega)
  unfold Rec.text rtext vtxt
  split
  · simp; omega
  · split <;> simp <;> omega
/-- The sum of the sizes. -/
def sizes (l : List Rec) : Nat := (l.map fun r => r.text.length).sum
theorem sizes_eq : ∀ l : List Rec, (rbytes l).length = sizes l
  | [] => rfl
  | r :: l => by
    have ih := sizes_eq l
    have e : rbytes (r :: l) = r.text ++ rbytes l := by simp [rbytes]
    rw [e, List.length_append, ih]; simp [sizes]
theorem sizes_snoc {l : List Rec} {k : Nat} (hk : k < l.length) : sizes (l.take (k + 1)) = sizes (l.take k) + l[k].text.length := by
  unfold sizes; rw [List.take_succ_eq_append_getElem hk, List.map_append, List.sum_append]; simp
theorem sizes_le {l : List Rec} (h : ∀ r ∈ l, r.ok = 0) (k : Nat) : sizes (l.take k) ≤ 580 * (l.take k).length := by
  induction l generalizing k with
  | nil => simp [sizes]
  | cons r l ih =>
    cases k with
    | zero => simp [sizes]
    | succ k =>
      have a := ih (fun x hx => h x (by simp [hx])) k
      have b := (text_sz (h r (by simp))).2
      simp only [sizes, List.take_succ_cons, List.map_cons, List.sum_cons, List.length_cons] at a ⊢
      omega
theorem batch_sz {p q r : Int} {l : List Rec} (h : rall p q r l = 0) : sizes l + 4 ≤ (rbatch p q r l).1.length ∧ (rbatch p q r l).1.length ≤ sizes l + 19 := by
  obtain ⟨o1, o2, o3, o4, o5, o6⟩ := rall_ok h
  simp only [numB, Bool.and_eq_true, decide_eq_true_eq] at o1 o2 o3
  unfold rbatch
  rw [if_pos h]
  have e : (nbytes [p.toNat, q.toNat, r.toNat, l.length]).length = (vput p.toNat).length + ((vput q.toNat).length + ((vput r.toNat).length + (vput l.length).length)) := by simp [nbytes]
  have a0 := vput_pos p.toNat
  have a1 := vput_pos q.toNat
  have a2 := vput_pos r.toNat
  have a3 := vput_pos l.length
  have b0 := sz_mono (n := p.toNat) (k := 6) (by omega) (by omega) (by omega)
  have b1 := sz_mono (n := q.toNat) (k := 6) (by omega) (by omega) (by omega)
  have b2 := sz_mono (n := r.toNat) (k := 6) (by omega) (by omega) (by omega)
  have b3 := sz_mono (n := l.length) (k := 1) (by omega) (by omega) (by omega)
  simp only [List.length_append, e, sizes_eq]
  omega

set_option maxHeartbeats 4000000 in
set_option maxRecDepth 100000 in
theorem walk {w : World} (p q r : Int) (v : Value) (l : List Rec) (i : Int) (hl : RecsIn w v l) (hbd : RecsBd l) (hi : -9223372036854775808 ≤ i ∧ i ≤ 9223372036854775807) :
    RetB Try.prog 6 #[.agg #[.int .i64 p, .int .i64 q, .int .i64 r, v], .int .i64 i] w (.bool true) := by
  refine RetB.intro fun R hR => ?_
  have cB0 := fun w hl => bound_any p q r v l w hl hbd
  obtain ⟨m, hm⟩ : ∃ m, cutRs l = m := ⟨_, rfl⟩
  have bm : RecsBd m := hm ▸ cutRs_bd hbd
  rw [hm] at cB0
  obtain ⟨ao, cp, rfl⟩ := hl.form
  clear hm
  have CB0 := Lib.hid cB0
  have HL := Lib.hid hl
  have BM := Lib.hid bm
  clear cB0 hbd hl bm
  go_enter Try.func6, Try.ntmps6
  go_wp2_with fail
  have T1 := Blk.new w #[.int .i64 p, .int .i64 q, .int .i64 r, .slice ao l.length cp] 26
  have G1 : Below w.heap.size w _ := below_all (o := .cells #[.int .i64 p, .int .i64 q, .int .i64 r, .slice ao l.length cp] 26) (Below.refl _ _)
  refine (CB0.out _ (HL.out.alloc _)).use ?_
  intro v3 w3 o3 b3
  have T3 := T1.below b3
  have G3 := below_any (Nat.le_refl _) G1 b3
  clear T1 G1 b3
  obtain ⟨a3, p3, rfl⟩ := (recs_own o3).form
  have f3 := fun i => Blk.frozen T3 i
  obtain ⟨z2, d0, d1, d2, d3⟩ := T3.c4
  go_wp2_with fail
  have T4 := (((T3.set 0 (.int .i64 p)).set 1 (.int .i64 q)).set 2 (.int .i64 r)).set 3 (.slice a3 m.length p3)
  have G4 := (((G3.setCell (p := ⟨w.heap.size, 0, none⟩) (Nat.le_refl _) (.int .i64 p)).setCell (p := ⟨w.heap.size, 1, none⟩) (Nat.le_refl _) (.int .i64 q)).setCell (p := ⟨w.heap.size, 2, none⟩) (Nat.le_refl _) (.int .i64 r)).setCell (p := ⟨w.heap.size, 3, none⟩) (Nat.le_refl _) (.slice a3 m.length p3)
  have o4 := recs_own (o3.kept (row := some (w.heap.size)) (grown_set (grown_set (grown_set (grown_set (grown_refl w3 _) 0 (.int .i64 p)) 1 (.int .i64 q)) 2 (.int .i64 r)) 3 (.slice a3 m.length p3)) (.inr (Ne.symm (own_ne o3 T3 (by decide)))))
  clear f3 z2 d0 d1 d2 d3 T3 G3 o3
  generalize (((w3.setCell ⟨w.heap.size, 0, none⟩ (.int .i64 p)).setCell ⟨w.heap.size, 1, none⟩ (.int .i64 q)).setCell ⟨w.heap.size, 2, none⟩ (.int .i64 r)).setCell ⟨w.heap.size, 3, none⟩ (.slice a3 m.length p3) = W4 at T4 G4 o4 ⊢
  have T4 : Blk W4 w.heap.size #[.int .i64 p, .int .i64 q, .int .i64 r, .slice a3 m.length p3] 26 := T4
  clear CB0 HL
  obtain ⟨k, hk⟩ : ∃ k, rall p q r m = k := ⟨_, rfl⟩
  obtain ⟨t, ht⟩ : ∃ t, (rbatch p q r m).1 = t := ⟨_, rfl⟩
  have ht2 : (rbatch p q r m).2 = k := by rw [← hk]; unfold rbatch; split <;> simp_all
  have cB := batch3_any p q r (.slice a3 m.length p3) m W4 o4 BM.out
  rw [ht, ht2] at cB
  have hml : m.length ≤ maxLen := BM.out.1
  unfold maxLen at hml
  by_cases h0 : k = 0
  · subst h0
    obtain ⟨hs1, hs2⟩ := batch_sz hk
    have lt := bytes_le hk
    rw [ht] at hs1 hs2 lt
    have hok := (rall_ok hk).2.2.2.2.2
    have h16 := (rall_ok hk).2.2.2.2.1
    have HOK := Lib.hid hok
    have cB : RetB Try.prog 13 _ W4 (.tuple #[.string (S t), .int .i64 0]) := cB
    refine cB.use ?_
    intro w5 b5
    have T5 := T4.below b5
    have o5 := o4.below b5
    have G5 := below_any (Nat.le_refl _) G4 b5
    clear cB T4 o4 G4 b5 ht2 hok
    obtain ⟨z2, d0, d1, d2, d3⟩ := T5.c4
    go_wp2_with fail
    clear z2 d0 d1 d2 d3
    have hne : m ≠ [] := (rall_ok hk).2.2.2.1
    rcases o5 with ⟨h0, _⟩ | ⟨b, off, cap, hsl, _, hlt, hc⟩
    · exact absurd h0 hne
    simp only [Value.slice.injEq, true_and] at hsl
    obtain ⟨rfl, rfl⟩ := hsl
    have HC := Lib.hid hc
    have HK := Lib.hid hk
    have HT := Lib.hid ht
    have hz := sizes_le HOK.out m.length
    rw [List.take_length] at hz
    clear hc hk ht hne BM
    go_loopw [7, 8, 9] (fun (v7 v8 v9 : Value) (W : World) => ∃ j : Nat, j ≤ m.length ∧ v7 = .int .i64 ((sizes (m.take j) : Nat) : Int) ∧ v8 = .int .i64 (j : Int) ∧ Below w5.heap.size w5 W) (fun (v7 v8 v9 : Value) (W : World) => (m.length - intOf v8).toNat)
    case atStart => exact ⟨0, by omega, by simp [sizes], rfl, Below.refl _ _⟩
    case round =>
      obtain ⟨j, hj, rfl, rfl, hnx⟩ := hrel
      obtain ⟨z2, d0, d1, d2, d3⟩ := (T5.below hnx).c4
      by_cases hjl : j < m.length
      · obtain ⟨c0, c1, c2, c3⟩ := (HC.out j hjl).keep fun i => hnx.cell (p := ⟨b, i, none⟩) hlt
        have hltr : b < wr.heap.size := Nat.lt_of_lt_of_le hlt hnx.size
        have hrk := HOK.out _ (List.getElem_mem hjl)
        obtain ⟨y1, y2⟩ := text_sz hrk
        have hss := sizes_snoc hjl
        have hsl2 := sizes_le HOK.out j
        have hln : (m.take j).length ≤ 16 := by rw [List.length_take]; omega
        obtain ⟨rb1, rb2⟩ : RecBd m[j] := by obtain ⟨_, _, _, h1, h2⟩ := rcheck_ok hrk; exact ⟨by unfold maxLen; omega, by unfold maxLen; omega⟩
        have cZ := fun w => size3_eqn (hk := m[j].hk) (tb := m[j].tb) (n := m[j].text.length) (by unfold rput; rw [if_pos (show rcheck m[j].hk m[j].key m[j].tb m[j].val = 0 from hrk)]; rfl) rb1 rb2 w
        generalize m[j] = r0 at *
        generalize r0.text.length = z at *
        have hsn : ((sizes (m.take (j + 1)) : Nat) : Int) = (sizes (m.take j) : Int) + z := by rw [hss]; omega
        have HS := Lib.hid hsn
        clear hss rb1 rb2 hsn
        generalize sizes (m.take j) = n at *
        have y3 : decide ((z : Int) < 2) = false := decide_eq_false (by omega)
        have y4 : decide ((580 : Int) < z) = false := decide_eq_false (by omega)
        have y5 : n ≤ 10000 := by omega
        clear hsl2 hln hrk
        have hw : IntKind.i64.wrap ((n : Int) + (z : Int)) = (n : Int) + z := by rw [IntKind.wrap_i64]; omega
        go_wp2_with (go_at_call 19; refine (cZ _).use ?_; intro w1 hb1)
        go_roundw
        case rel => exact ⟨j + 1, by omega, by rw [HS.out], by go_num, below_any (Nat.le_refl _) hnx hb1⟩
        case measure => simp [intOf]; omega
      · obtain rfl : j = m.length := by omega
        rw [List.take_length]
        have hb : bits .and .i64 i 65535 = _ := and_low i 65535 16 rfl (by omega)
        obtain ⟨c, hcx, hct⟩ : ∃ c : Nat, (bits .and .i64 i 65535).tmod (t.length : Int) = c ∧ c < t.length := ⟨(BitVec.ofInt 64 i).toNat % 2 ^ 16 % t.length, by rw [hb]; rfl, Nat.mod_lt _ (by omega)⟩
        have hcut := parse_cut HK.out (c := c) (by rw [HT.out]; exact hct)
        have hc2 := mparse_err hcut
        rw [HT.out] at hcut hc2
        generalize (mparse (t.take c) 0).2.2 = e at hcut hc2
        have cP := fun w => parse3_eq hc2 w (by rw [List.length_take]; unfold maxLen; omega)
        have CP := Lib.hid cP
        have he1 : (e != 0) = true := by simpa using hcut
        have G6 := below_any (Nat.le_refl _) G5 hnx
        clear hb hcut hc2 cP HK HT HOK hi
        go_wp2_with fail
        refine (CP.out _).use ?_
        intro v9 w9 oa b9
        have ob : w9.ownsRow wr.heap.size 23 4 v9 ([] : List Rec).length (([] : List Rec).flatMap Rec.cells) := oa
        clear oa
        have o9 := recs_own ob
        clear ob
        obtain ⟨a9, p9, rfl⟩ := o9.form
        have T9 := Blk.new w9 #[.int .i64 0, .int .i64 0, .int .i64 0, .slice a9 0 p9] 26
        have G10 := below_all (o := .cells #[.int .i64 0, .int .i64 0, .int .i64 0, .slice a9 0 p9] 26) (below_any (Nat.le_refl _) G6 b9)
        clear o9 b9 CP z2 d0 d1 d2 d3 T5 hnx G6
        obtain ⟨zz, c0, c1, c2, c3⟩ := T9.c4
        go_wp2_with fail
        refine (fixed3 _).use ?_
        intro w12 b12
        go_wp2_with fail
        exact finB hR (below_any (Nat.le_refl _) G10 b12) rfl
  · have hr : t = [] := by rw [← ht]; unfold rbatch; rw [if_neg (by omega)]
    subst hr
    have hk1 : ((k : Int) == 0) = false := by simp; omega
    have hk2 : ((k : Int) != 0) = true := by simp; omega
    have cA := fun w hl => all3_any p q r (.slice a3 m.length p3) m w hl BM.out
    rw [hk] at cA
    refine cB.use ?_
    intro w5 b5
    have T5 := T4.below b5
    have o5 := Lib.hid (o4.below b5)
    have GG := below_any (Nat.le_refl _) G4 b5
    have CA := Lib.hid cA
    obtain ⟨z2, d0, d1, d2, d3⟩ := T5.c4
    clear cB T4 o4 G4 b5 BM hk ht ht2 cA
    go_wp2_with fail
    refine (CA.out _ o5.out).use ?_
    intro w6 b6
    have G6 := below_any (Nat.le_refl _) GG b6
    go_wp2_with fail
    refine (fixed3 _).use ?_
    intro w7 b7
    go_wp2_with fail
    exact finB hR (below_any (Nat.le_refl _) G6 b7) rfl
end Go.Proofs.Ytikcpfoehapndaa.recordSizes
