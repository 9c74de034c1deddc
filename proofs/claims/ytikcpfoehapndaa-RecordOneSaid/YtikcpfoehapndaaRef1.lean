/-
  Layer 1's reference: contracts.
-/
import Derived.Test.YtikcpfoehapndaaPut
import Derived.RegionTactic
import Derived.RegionCalls
import Derived.Deep.RegionWith
import Derived.Deep.RegionHeld3
import Derived.BigRegion
set_option linter.unusedVariables false
set_option linter.unusedSimpArgs false
namespace Go.Proofs.Ytikcpfoehapndaa
open Go.RowKit

theorem vputF_le : ∀ f n, (vputF f n).length ≤ f + 1
  | 0, n => by simp [vputF]
  | f + 1, n => by
    unfold vputF
    split
    · simp
    · have := vputF_le f (n / 128); simp; omega

set_option maxRecDepth 100000 in
theorem rput_small (n : Nat) (w : World) (h : n < 128) : RetB Try.prog 31 #[.int .u64 n] w (.string (S [UInt8.ofNat n])) := by
  refine RetB.intro fun R hR => ?_
  have hlt : (n : Int) < 128 := by omega
  have hcA := fun (w : World) => conv1 (P := Try.prog) Try.underlying49 Try.underlying5 Try.underlying9 (w.alloc (.cells #[.int .u8 (n : Int)] 5)) w.heap.size 1 n (by simp)
  rw [strOfNums_one] at hcA
  have q1 : IntKind.u8.wrap (n : Int) = n := by rw [IntKind.wrap_u8']; omega
  go_enter Try.func31, Try.ntmps31
  go_wp2
  exact finB hR ((Below.refl _ w).alloc (Nat.le_refl _) _) rfl

theorem below_any {w w1 : World} {B : Nat} (hB : B ≤ w.heap.size) (h0 : Below B w w1) {W : World} (h : Below w1.heap.size w1 W) : Below B w W := h0.trans (h.mono (Nat.le_trans hB h0.size))

set_option maxHeartbeats 1000000 in
set_option maxRecDepth 100000 in
theorem rput_any : ∀ (f n : Nat) (w : World), n < 2 ^ (7 * f + 1) → f ≤ 9 → RetB Try.prog 31 #[.int .u64 n] w (.string (S (vputF f n)))
  | 0, n, w, hn, hf => by
    have hn : n < 2 := hn
    exact rput_small n w (by omega)
  | f + 1, n, w, hn, hf => by
    by_cases hlt : n < 128
    · rw [show vputF (f + 1) n = [UInt8.ofNat n] from by rw [vputF, if_pos hlt]]
      exact rput_small n w hlt
    · refine RetB.intro fun R hR => ?_
      rw [show vputF (f + 1) n = UInt8.ofNat (n % 128 + 128) :: vputF f (n / 128) from by rw [vputF, if_neg hlt]] at hR
      have ih := fun w => rput_any f (n / 128) w (by rw [show 7 * (f + 1) + 1 = (7 * f + 1) + 7 from by omega, Nat.pow_add] at hn; omega) (by omega)
      have hge : ¬ (n : Int) < 128 := by omega
      have hn64 : n < 18446744073709551616 := by
        have h1 : 2 ^ (7 * (f + 1) + 1) ≤ 2 ^ 64 := Nat.pow_le_pow_right (by omega) (by omega)
        omega
      obtain ⟨y, hy⟩ : ∃ y : Nat, n % 128 + 128 = y := ⟨_, rfl⟩
      obtain ⟨z, hz⟩ : ∃ z : Nat, n / 128 = z := ⟨_, rfl⟩
      rw [hz] at ih hR
      rw [hy] at hR
      have q1 : IntKind.u64.wrap ((n : Int) / 128) = (z : Int) := by rw [IntKind.wrap_u64]; omega
      have q2 : IntKind.u8.wrap (IntKind.u64.wrap ((n : Int).tmod 128 + 128)) = (y : Int) := by
        rw [IntKind.wrap_u64, IntKind.wrap_u8', Int.tmod_eq_emod_of_nonneg (by omega)]; omega
      have IH := Lib.hid ih
      have hf8 : f ≤ 9 := by omega
      clear ih hn hf hy hz hn64 hlt
      have hcA := fun (w : World) => conv1 (P := Try.prog) Try.underlying49 Try.underlying5 Try.underlying9 (w.alloc (.cells #[.int .u8 (y : Int)] 5)) w.heap.size 1 y (by simp)
      have hcB := fun (w : World) => conv1 (P := Try.prog) Try.underlying49 Try.underlying5 Try.underlying9 (w.alloc (.cells #[.int .u8 (y : Int)] 5)).drew w.heap.size 1 y (by simp)
      rw [strOfNums_one] at hcA hcB
      have hlen := vputF_le f z
      have hf9 : f ≤ 9 := hf8
      have hadd : ¬ (9223372036854775807 < 1 + (vputF f z).length) := by omega
      go_enter Try.func31, Try.ntmps31
      go_wp2
      go_region_with (first | (go_at_call 31; refine (IH.out _).use ?_; intro w1 hb1; have hc1 := hb1.cell (p := ⟨w.heap.size, 0, none⟩); have hcC := conv1 (P := Try.prog) Try.underlying49 Try.underlying5 Try.underlying9 w1 w.heap.size 1 y; rw [strOfNums_one] at hcC))
      all_goals go_wp2
      · go_ret
        exact finB hR (below_any (Nat.le_refl _) ((Below.refl _ w).alloc (Nat.le_refl _) _).drew hb1) (veq_str rfl)
      · go_ret
        exact finB hR (below_any (Nat.le_refl _) ((Below.refl _ w).alloc (Nat.le_refl _) _).drew hb1) (veq_str rfl)
      · go_ret
        exact finB hR ((below_any (Nat.le_refl _) (Below.refl _ w).drew hb1).alloc hb1.size _) (veq_str rfl)

/-- The reference's Put: a number's bytes. -/
theorem rput_eq (n : Nat) (w : World) (hn : n < 18446744073709551616) : RetB Try.prog 31 #[.int .u64 n] w (.string (S (vput n))) := rput_any 9 n w hn (Nat.le_refl _)
set_option maxHeartbeats 1000000 in
set_option maxRecDepth 100000 in
theorem rget_any (l : List UInt8) (p : Int) (w : World) (hl : l.length ≤ maxLen) :
    Ret Try.prog 39 #[.string (S l), .int .i64 p] w (.tuple #[.int .u64 (vget l p).1, .int .i64 (vget l p).2.1, .int .i64 (vget l p).2.2]) := by
  refine Ret.intro fun R hR => ?_
  unfold maxLen at hl
  by_cases hr : 0 ≤ p ∧ p ≤ l.length
  · obtain ⟨h0, h1⟩ := hr
    obtain ⟨p, rfl⟩ := Int.eq_ofNat_of_zero_le h0
    have hz := GetAt.zero l p (by omega)
    have hd1 : decide ((p : Int) < 0) = false := decide_eq_false (by omega)
    have hd2 : decide (l.length < p) = false := decide_eq_false (by omega)
    go_enter Try.func39, Try.ntmps39
    go_wp2
    go_loop [7, 8, 9] (fun n q i => ∃ (k : Nat) (a q' : Nat), GetAt l p k a ∧ Hid (q' = 2 ^ (7 * k)) ∧ i = .int .i64 k ∧ n = .int .u64 a ∧ q = .int .u64 q') (fun _ _ i => 10 - (intOf i).toNat)
    case atStart => exact ⟨0, 0, 1, hz, rfl, rfl, rfl, rfl⟩
    case round =>
      obtain ⟨k, a, q, hg, HQ, rfl, rfl, rfl⟩ := hrel
      have hk9 : k ≤ 9 := hg.1
      have hpk : p + k ≤ l.length := hg.2.1
      by_cases hlt : p + k < l.length
      · obtain ⟨c, hc⟩ : ∃ c, ((S l)[p + k]'(by rw [S_size]; exact hlt)).toNat = c := ⟨_, rfl⟩
        have hc' : (l[p + k]'hlt).toNat = c := hc
        have hc256 : c < 256 := by rw [← hc]; exact UInt8.toNat_lt _
        have q1 : IntKind.u64.wrap (c : Int) = c := by rw [IntKind.wrap_u64]; omega
        by_cases hb : longB c k = true
        · have hv := Lib.hid (get_long hg hlt (by rw [hc']; exact hb))
          by_cases h9 : k = 9 ∧ 1 < c
          · obtain ⟨rfl, h1c⟩ := h9
            clear hc'
            go_wp2
            go_ret3
            exact fin hR (by rw [hv.out]; rfl)
          · have h0c : c = 0 ∧ 0 < k := by
              simp [longB] at hb; omega
            obtain ⟨rfl, h0k⟩ := h0c
            clear hc' hb
            go_wp2
            all_goals (go_ret3; exact fin hR (by rw [hv.out]; rfl))
        · have hb : longB c k = false := by simpa using hb
          have hA : ¬ (k = 9 ∧ 1 < c) := by
            rintro ⟨rfl, h⟩; simp [longB] at hb; omega
          have hB : ¬ (c = 0 ∧ 0 < k) := by
            rintro ⟨rfl, h⟩; simp [longB] at hb; omega
          have hstep := Lib.hid (rseven a c k q HQ.out hg.2.2.1 hc256 hk9 (longB_nine hb))
          have hst2 := hstep.out
          rw [Int.tmod_eq_emod_of_nonneg (by omega)] at hst2
          have hstep2 := Lib.hid hst2
          clear hst2
          by_cases hlo : c < 128
          · have hv := Lib.hid (get_last hg hlt (by rw [hc']; exact hb) (by rw [hc']; exact hlo))
            rw [hc'] at hv
            have HB := Lib.hid hb
            clear hc' hb
            by_cases hk : k = 9
            · subst hk
              obtain rfl : c = 1 := by omega
              clear hA hB
              go_wp2
              all_goals (go_ret3; refine fin hR ?_; rw [hv.out]; exact tup3 (veq_int (by have := hstep.out; simpa using this)) (veq_int (by simp only [Int.natCast_add]; omega)) rfl)
            · by_cases h0 : c = 0
              · have hk0 : (k : Int) ≤ 0 := by omega
                subst h0
                clear hA hB
                go_wp2
                all_goals (go_ret3; refine fin hR ?_; rw [hv.out]; exact tup3 (veq_int (by have := hstep.out; simpa [IntKind.wrap_u64] using this)) (veq_int (by simp only [Int.natCast_add]; omega)) rfl)
              · clear hA hB
                go_wp2
                all_goals (go_ret3; refine fin hR ?_; rw [hv.out]; exact tup3 (veq_int (by first | rw [hstep.out, Nat.mod_eq_of_lt hlo] | rw [hstep2.out, Nat.mod_eq_of_lt hlo])) (veq_int (by simp only [Int.natCast_add]; omega)) rfl)
          · have hk : k ≠ 9 := fun h => hA ⟨h, by omega⟩
            have hge : 128 ≤ c := by omega
            have hv := Lib.hid (get_more hg hlt (by rw [hc']; exact hb) (by rw [hc']; exact hge))
            rw [hc'] at hv
            have hpow := Lib.hid (rpow k (by omega))
            clear hc' hb hA hB hlo
            go_wp2
            go_round
            case rel => exact ⟨k + 1, _, _, hv.out, rfl, by go_num, veq_int (by first | rw [hstep.out, show c % 128 = c - 128 by omega] | rw [hstep2.out, show c % 128 = c - 128 by omega]), veq_int (by rw [HQ.out]; exact hpow.out)⟩
            case measure => simp [intOf]; omega
      · have hv := Lib.hid (get_short hg hlt)
        go_wp2
        go_ret3
        exact fin hR (by rw [hv.out]; rfl)
  · have hv := Lib.hid (vget_out hr)
    go_enter Try.func39, Try.ntmps39
    go_wp2
    all_goals (go_ret3; exact fin hR (by rw [hv.out]; rfl))
end Go.Proofs.Ytikcpfoehapndaa
