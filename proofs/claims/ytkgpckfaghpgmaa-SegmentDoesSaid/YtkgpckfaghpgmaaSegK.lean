import Derived.Test.YtkgpckfaghpgmaaSegV
/-
  Layer 5: the document's segment, as it lies in memory; a new one, one loaded, its bytes and its index.
-/
set_option linter.unusedVariables false
set_option linter.unusedSimpArgs false
namespace Go.Proofs.Ytkgpckfaghpgmaa
open Go.RowKit
attribute [local go_sem] ByteArray.extract_mk ByteArray.mk_append_mk

/-- The document's segment, as it lies in memory. -/
def RSegAt (w : World) (p : Nat) (base next : Int) (l : List Fnd) : Prop := ∃ lv, Blk w p #[.int .i64 base, .int .i64 next, lv] 74 ∧ FndsIn w lv l
theorem RSegAt.below {w W : World} {p : Nat} {base next : Int} {l : List Fnd} (h : RSegAt w p base next l) (hb : Below w.heap.size w W) : RSegAt W p base next l := by
  obtain ⟨lv, h1, h2⟩ := h
  exact ⟨lv, h1.below hb, h2.below hb⟩

theorem rnew5 (n : Int) (w : World) : Calls Try.prog 16 #[.int .i64 n] w fun x w' => (numB n = true ∧ ∃ p, x = .returned (.tuple #[.pointer (some ⟨p, 0, none⟩), .int .i64 0]) ∧ RSegAt w' p n n [] ∧ Below w.heap.size w w') ∨ (numB n = false ∧ x = .returned (.tuple #[.pointer none, .int .i64 1]) ∧ Below w.heap.size w w') := by
  have c := fun w => rnum_any n w
  by_cases h : numB n = true
  · rw [h] at c
    go_enter Try.func16, Try.ntmps16
    go_wp2_with fail
    refine (c _).use ?_
    go_wp2_with fail
    go_ret2
    exact .inl ⟨h, w.heap.size, rfl, ⟨.slice none 0 0, Blk.new _ _ _, .inl ⟨rfl, _, _, rfl⟩⟩, below_all (Below.refl _ _)⟩
  · have h : numB n = false := by simpa using h
    rw [h] at c
    go_enter Try.func16, Try.ntmps16
    go_wp2_with fail
    refine (c _).use ?_
    go_wp2_with fail
    go_ret2
    exact .inr ⟨h, rfl, Below.refl _ _⟩

theorem rtext_size {r : Rec} (h : r.ok = 0) : (rtext r.hk r.key r.tb r.val).length = (rput r.hk r.key r.tb r.val).1.length := by
  unfold rput
  rw [if_pos (show rcheck r.hk r.key r.tb r.val = 0 from h)]

set_option maxHeartbeats 2000000 in
theorem rbytes5 (p : Nat) (base next : Int) (l : List Fnd) (w : World) (h : RSegAt w p base next l) (hl : l.length ≤ 100000) (hok : ∀ f ∈ l, f.r.ok = 0) : RetB Try.prog 38 #[.pointer (some ⟨p, 0, none⟩)] w (.int .i64 (fbytes l : Nat)) := by
  refine RetB.intro fun R hR => ?_
  obtain ⟨lv, hp, hpl⟩ := h
  obtain ⟨k0, c0, c1, c2⟩ := hp.c3
  obtain ⟨la, lc, rfl⟩ := hpl.form
  have HP := Lib.hid hp
  have HL := Lib.hid hpl
  have HO := Lib.hid hok
  clear hp hpl hok
  go_enter Try.func38, Try.ntmps38
  go_wp2_with fail
  clear c0 c1 c2
  go_loopw [3, 4] (fun (v3 v4 : Value) (wr : World) => ∃ k : Nat, k ≤ l.length ∧ v3 = .int .i64 (fbytes (l.take k) : Nat) ∧ v4 = .int .i64 (k : Int) ∧ Below w.heap.size w wr) (fun (v3 v4 : Value) (wr : World) => (l.length - intOf v4).toNat)
  case atStart => exact ⟨0, by omega, by simp [fbytes], rfl, Below.refl _ _⟩
  case round =>
    obtain ⟨k, hk, rfl, rfl, hnx⟩ := hrel
    obtain ⟨kk, d0, d1, d2⟩ := (HP.out.below hnx).c3
    by_cases hkl : k < l.length
    · rcases HL.out.below hnx with ⟨h, _⟩ | ⟨b, off, cap, hsl, _, _, hlt, hc⟩
      · rw [h] at hkl; simp at hkl
      simp only [Value.slice.injEq, true_and] at hsl
      obtain ⟨rfl, rfl⟩ := hsl
      obtain ⟨x0, x1, x2, x3, x4⟩ := hc k hkl
      have hss : Hid (fbytes (l.take (k + 1)) = fbytes (l.take k) + l[k].size) := Lib.hid (fbytes_take l hkl)
      have hz := l[k].size_le
      have hok := HO.out _ (List.getElem_mem hkl)
      have hbd := rcheck_ok hok
      have cZ := fun w => r3text_any l[k].r.hk l[k].r.tb l[k].r.key l[k].r.val w (by have := hbd.2.2.2.1; omega) (by have := hbd.2.2.2.2; omega)
      have hzz : (rtext l[k].r.hk l[k].r.key l[k].r.tb l[k].r.val).length = l[k].size := rtext_size hok
      have hfl : fbytes (l.take k) ≤ 2021 * 100000 := by have := fbytes_le (l.take k); rw [List.length_take] at this; omega
      have i1 : (0 : Int) ≤ (k : Int) := by omega
      have i2 : (k : Int) < (l.length : Int) := by omega
      clear hc hbd hok
      generalize l[k] = f at *
      generalize rtext f.r.hk f.r.key f.r.tb f.r.val = tx at *
      generalize f.size = z at *
      generalize fbytes (l.take k) = s at *
      have e1 : IntKind.i64.wrap ((s : Int) + (z : Int)) = (s : Int) + (z : Int) := by rw [IntKind.wrap_i64]; omega
      have e2 : IntKind.i64.wrap ((s : Int) + (tx.length : Int)) = (s : Int) + (tx.length : Int) := by rw [IntKind.wrap_i64]; omega
      have HZ := Lib.hid hzz
      clear hzz
      go_wp2_with fail
      refine (cZ _).use ?_
      intro w2 b2
      go_wp2_with fail
      go_roundw
      case rel => exact ⟨k + 1, by omega, by rw [hss.out, ← HZ.out]; rfl, by go_num, below_any (Nat.le_refl _) hnx b2⟩
      case measure => simp [intOf]; omega
    · obtain rfl : k = l.length := by omega
      rw [List.take_length]
      go_wp2_with fail
      exact finB hR hnx rfl
end Go.Proofs.Ytkgpckfaghpgmaa
