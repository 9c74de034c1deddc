/-
  Layer 1's reference: contracts.
-/
import Derived.Test.YtkgpckfaghpgmaaPut
import Derived.RegionTactic
import Derived.RegionCalls
import Derived.Deep.RegionWith
import Derived.Deep.RegionHeld3
import Derived.BigRegion
set_option linter.unusedVariables false
set_option linter.unusedSimpArgs false
namespace Go.Proofs.Ytkgpckfaghpgmaa
open Go.RowKit

theorem vputF_le : ∀ f n, (vputF f n).length ≤ f + 1
  | 0, n => by simp [vputF]
  | f + 1, n => by
    unfold vputF
    split
    · simp
    · have := vputF_le f (n / 128); simp; omega

set_option maxRecDepth 100000 in
theorem rput_small (n : Nat) (w : World) (h : n < 128) : RetB Try.prog 51 #[.int .u64 n] w (.string (S [UInt8.ofNat n])) := by
  refine RetB.intro fun R hR => ?_
  have hlt : (n : Int) < 128 := by omega
  have hcA := fun (w : World) => conv1 (P := Try.prog) Try.underlying84 Try.underlying5 Try.underlying9 (w.alloc (.cells #[.int .u8 (n : Int)] 5)) w.heap.size 1 n (by simp)
  rw [strOfNums_one] at hcA
  have q1 : IntKind.u8.wrap (n : Int) = n := by rw [IntKind.wrap_u8']; omega
  go_enter Try.func51, Try.ntmps51
  go_wp2
  exact finB hR ((Below.refl _ w).alloc (Nat.le_refl _) _) rfl

theorem below_any {w w1 : World} {B : Nat} (hB : B ≤ w.heap.size) (h0 : Below B w w1) {W : World} (h : Below w1.heap.size w1 W) : Below B w W := h0.trans (h.mono (Nat.le_trans hB h0.size))

set_option maxHeartbeats 1000000 in
set_option maxRecDepth 100000 in
theorem rput_any : ∀ (f n : Nat) (w : World), n < 2 ^ (7 * f + 1) → f ≤ 9 → RetB Try.prog 51 #[.int .u64 n] w (.string (S (vputF f n)))
  | 0, n, w, hn, hf => by
    have hn : n < 2 := hn
    exact rput_small n w (by omega)
  | f + 1, n, w, hn, hf => by
    by_cases hlt : n < 128
    · rw [show vputF (f + 1) n = [UInt8.ofNat n] from by rw [vputF, if_pos hlt]]
      exact rput_small n w hlt
    · refine RetB.intro fun R hR => ?_
      rw [show vputF (f + 1) n = UInt8.ofNat (n % 128 + 128) :: vputF f (n / 128) from by rw [vputF, if_neg hlt]] at hR
      have ih := fun w => rput_any f (n / 128) w (by rw [show 7 * (f + 1) + 1 = (7 * f + 1) + 7 from by omega, Nat.pow_add] at hn; omega) (by omega)
      have hge : ¬ (n : Int) < 128 := by omega
      have hn64 : n < 18446744073709551616 := by
        have h1 : 2 ^ (7 * (f + 1) + 1) ≤ 2 ^ 64 := Nat.pow_le_pow_right (by omega) (by omega)
        omega
      obtain ⟨y, hy⟩ : ∃ y : Nat, n % 128 + 128 = y := ⟨_, rfl⟩
      obtain ⟨z, hz⟩ : ∃ z : Nat, n / 128 = z := ⟨_, rfl⟩
      rw [hz] at ih hR
      rw [hy] at hR
      have q1 : IntKind.u64.wrap ((n : Int) / 128) = (z : Int) := by rw [IntKind.wrap_u64]; omega
      have q2 : IntKind.u8.wrap (IntKind.u64.wrap ((n : Int).tmod 128 + 128)) = (y : Int) := by
        rw [IntKind.wrap_u64, IntKind.wrap_u8', Int.tmod_eq_emod_of_nonneg (by omega)]; omega
      have IH := Lib.hid ih
      have hf8 : f ≤ 9 := by omega
      clear ih hn hf hy hz hn64 hlt
      have hcA := fun (w : World) => conv1 (P := Try.prog) Try.underlying84 Try.underlying5 Try.underlying9 (w.alloc (.cells #[.int .u8 (y : Int)] 5)) w.heap.size 1 y (by simp)
      have hcB := fun (w : World) => conv1 (P := Try.prog) Try.underlying84 Try.underlying5 Try.underlying9 (w.alloc (.cells #[.int .u8 (y : Int)] 5)).drew w.heap.size 1 y (by simp)
      rw [strOfNums_one] at hcA hcB
      have hlen := vputF_le f z
      have hf9 : f ≤ 9 := hf8
      have hadd : ¬ (9223372036854775807 < 1 + (vputF f z).length) := by omega
      go_enter Try.func51, Try.ntmps51
      go_wp2
      go_region_with (first | (go_at_call 51; refine (IH.out _).use ?_; intro w1 hb1; have hc1 := hb1.cell (p := ⟨w.heap.size, 0, none⟩); have hcC := conv1 (P := Try.prog) Try.underlying84 Try.underlying5 Try.underlying9 w1 w.heap.size 1 y; rw [strOfNums_one] at hcC))
      all_goals go_wp2
      · go_ret
        exact finB hR (below_any (Nat.le_refl _) ((Below.refl _ w).alloc (Nat.le_refl _) _).drew hb1) (veq_str rfl)
      · go_ret
        exact finB hR (below_any (Nat.le_refl _) ((Below.refl _ w).alloc (Nat.le_refl _) _).drew hb1) (veq_str rfl)
      · go_ret
        exact finB hR ((below_any (Nat.le_refl _) (Below.refl _ w).drew hb1).alloc hb1.size _) (veq_str rfl)

/-- The reference's Put: a number's bytes. -/
theorem rput_eq (n : Nat) (w : World) (hn : n < 18446744073709551616) : RetB Try.prog 51 #[.int .u64 n] w (.string (S (vput n))) := rput_any 9 n w hn (Nat.le_refl _)
end Go.Proofs.Ytkgpckfaghpgmaa
