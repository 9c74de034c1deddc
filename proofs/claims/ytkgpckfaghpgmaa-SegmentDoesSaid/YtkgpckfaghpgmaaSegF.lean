import Derived.Test.YtkgpckfaghpgmaaSegE
/-
  Layer 5: what a segment tells of itself.
-/
set_option linter.unusedVariables false
set_option linter.unusedSimpArgs false
namespace Go.Proofs.Ytkgpckfaghpgmaa
open Go.RowKit
attribute [local go_sem] ByteArray.extract_mk ByteArray.mk_append_mk

theorem len5 (p : Nat) (bs : List Nat) (base next : Int) (l : List Fnd) (w : World) (h : SegAt w p bs base next l) : Ret Try.prog 21 #[.pointer (some ⟨p, 0, none⟩)] w (.int .i64 (l.length : Nat)) := by
  refine Ret.intro fun R hR => ?_
  obtain ⟨k0, c0, c1, ⟨la, lc, c2⟩, ⟨ia, ic, c3⟩, cf⟩ := h.c4
  clear h
  go_enter Try.func21, Try.ntmps21
  go_wp2
  exact fin hR rfl
theorem span5 (p : Nat) (bs : List Nat) (base next : Int) (l : List Fnd) (w : World) (h : SegAt w p bs base next l) : RetB Try.prog 23 #[.pointer (some ⟨p, 0, none⟩)] w (.tuple #[.int .i64 base, .int .i64 next]) := by
  refine RetB.intro fun R hR => ?_
  obtain ⟨k0, c0, c1, ⟨la, lc, c2⟩, ⟨ia, ic, c3⟩, cf⟩ := h.c4
  clear h
  go_enter Try.func23, Try.ntmps23
  go_wp2
  go_quiet (fail)
  go_wp2
  exact finB hR (belowN (Below.refl _ _) _) rfl
theorem all5 (p : Nat) (bs : List Nat) (base next : Int) (l : List Fnd) (w : World) (h : SegAt w p bs base next l) (hl : l.length ≤ 100000) : FndsCall 17 #[.pointer (some ⟨p, 0, none⟩)] w l := by
  refine FndsCall.intro fun R hR => ?_
  obtain ⟨lv, iv, hp, hlo, hio, hbs⟩ := h
  obtain ⟨k0, c0, c1, c2, c3⟩ := hp.c4
  have cC := clone5 lv l w (fnds_own hlo) (by omega)
  obtain ⟨la, lc, rfl⟩ := own_form hlo
  clear hlo hio hp
  go_enter Try.func17, Try.ntmps17
  go_wp2_with fail
  refine cC.use ?_
  intro v w1 o1 b1
  go_wp2_with fail
  exact hR.out _ _ o1 b1
theorem index5 (p : Nat) (bs : List Nat) (base next : Int) (l : List Fnd) (w : World) (h : SegAt w p bs base next l) (hl : l.length ≤ 100000) : NumsCall 20 #[.pointer (some ⟨p, 0, none⟩)] w (idx l) := by
  refine NumsCall.intro fun R hR => ?_
  obtain ⟨lv, iv, hp, hlo, hio, hbs⟩ := h
  obtain ⟨k0, c0, c1, c2, c3⟩ := hp.c4
  have cC := cloneN5 iv (idx l) w (nums_own hio) (by have := idx_len l; omega)
  obtain ⟨ia, ic, rfl⟩ := own_form hio
  clear hlo hio hp
  go_enter Try.func20, Try.ntmps20
  go_wp2_with fail
  refine cC.use ?_
  intro v w1 o1 b1
  go_wp2_with fail
  exact hR.out _ _ o1 b1

/-- How many bytes a record is. -/
def Fnd.size (f : Fnd) : Nat := (rput f.r.hk f.r.key f.r.tb f.r.val).1.length
theorem Fnd.size_le (f : Fnd) : f.size ≤ 2021 := by
  unfold Fnd.size rput
  split
  · exact rec_ok_text (r := f.r) (by assumption)
  · simp
def fbytes : List Fnd → Nat
  | [] => 0
  | f :: l => f.size + fbytes l
theorem fbytes_snoc : ∀ (l : List Fnd) (f : Fnd), fbytes (l ++ [f]) = fbytes l + f.size
  | [], f => by simp [fbytes]
  | g :: l, f => by simp only [List.cons_append, fbytes, fbytes_snoc l f]; omega
theorem fbytes_take (l : List Fnd) {k : Nat} (hk : k < l.length) : fbytes (l.take (k + 1)) = fbytes (l.take k) + l[k].size := by
  rw [List.take_succ_eq_append_getElem hk, fbytes_snoc]
theorem fbytes_le : ∀ l : List Fnd, fbytes l ≤ 2021 * l.length
  | [] => by simp [fbytes]
  | f :: l => by have := fbytes_le l; have := f.size_le; simp only [fbytes, List.length_cons]; omega

set_option maxHeartbeats 2000000 in
theorem bytes5 (p : Nat) (bs : List Nat) (base next : Int) (l : List Fnd) (w : World) (h : SegAt w p bs base next l) (hl : l.length ≤ 100000) (hbd : ∀ f ∈ l, RecBd f.r) : RetB Try.prog 33 #[.pointer (some ⟨p, 0, none⟩)] w (.int .i64 (fbytes l : Nat)) := by
  refine RetB.intro fun R hR => ?_
  obtain ⟨lv, iv, hp, hlo, hio, hbs⟩ := h
  obtain ⟨k0, c0, c1, c2, c3⟩ := hp.c4
  have hpl := fnds_own hlo
  have HB := Lib.hid hbd
  clear hlo hio hp hbd hbs
  rcases hpl with ⟨rfl, a, cap, rfl⟩ | ⟨b, off, cap, rfl, _, _, hlt, hc⟩
  · go_enter Try.func33, Try.ntmps33
    go_wp2_with fail
    refine wp_loop_rounds 1 ?_
    rw [rounds_succ]
    go_wp2_with fail
    exact finB hR (Below.refl _ _) rfl
  · have HC := Lib.hid hc
    clear hc
    go_enter Try.func33, Try.ntmps33
    go_wp2_with fail
    go_loopw [3, 5, 11] (fun (v3 v5 v11 : Value) (wr : World) => ∃ k : Nat, k ≤ l.length ∧ v3 = .int .i64 (fbytes (l.take k) : Nat) ∧ v11 = .int .i64 (k : Int) ∧ Below w.heap.size w wr) (fun (v3 v5 v11 : Value) (wr : World) => (l.length - intOf v11).toNat)
    case atStart => exact ⟨0, by omega, by simp [fbytes], rfl, Below.refl _ _⟩
    case round =>
      obtain ⟨k, hk, rfl, rfl, hnx⟩ := hrel
      by_cases hkl : k < l.length
      · have hbk := HB.out _ (List.getElem_mem hkl)
        obtain ⟨x0, x1, x2, x3, x4⟩ := (HC.out k hkl).keep fun j => hnx.cell (p := ⟨b, j, none⟩) hlt
        have hltr : b < wr.heap.size := Nat.lt_of_lt_of_le hlt hnx.size
        have hss : Hid (fbytes (l.take (k + 1)) = fbytes (l.take k) + l[k].size) := Lib.hid (fbytes_take l hkl)
        have hz := l[k].size_le
        have cZ := fun w => size3_any l[k].r.hk l[k].r.tb l[k].r.key l[k].r.val w hbk.1 hbk.2
        have hzz : (rput l[k].r.hk l[k].r.key l[k].r.tb l[k].r.val).1.length = l[k].size := rfl
        rw [hzz] at cZ
        have hfl : fbytes (l.take k) ≤ 2021 * 100000 := by have := fbytes_le (l.take k); rw [List.length_take] at this; omega
        clear hzz hbk
        generalize l[k] = f at *
        generalize f.size = z at *
        generalize fbytes (l.take k) = s at *
        have e1 : IntKind.i64.wrap ((s : Int) + (z : Int)) = (s : Int) + (z : Int) := by rw [IntKind.wrap_i64]; omega
        go_wp2_with fail
        refine (cZ _).use ?_
        intro w2 b2
        go_wp2_with fail
        go_roundw
        case rel => exact ⟨k + 1, by omega, by rw [hss.out]; rfl, by go_num, below_any (Nat.le_refl _) (below_all hnx) b2⟩
        case measure => simp [intOf]; omega
      · obtain rfl : k = l.length := by omega
        rw [List.take_length]
        go_wp2_with fail
        exact finB hR hnx rfl
end Go.Proofs.Ytkgpckfaghpgmaa
