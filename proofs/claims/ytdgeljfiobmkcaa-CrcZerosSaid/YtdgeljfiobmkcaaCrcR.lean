/-
  Layer 2: the reference's sums: contracts.
-/
import Derived.Test.YtdgeljfiobmkcaaCrcP
import Derived.Test.YtdgeljfiobmkcaaVar
set_option linter.unusedVariables false
set_option linter.unusedSimpArgs false
namespace Go.Proofs.Ytdgeljfiobmkcaa
open Go.RowKit

theorem xor_pow (a b k : Nat) : (a ^^^ b) / 2 ^ k = a / 2 ^ k ^^^ b / 2 ^ k := by
  apply Nat.eq_of_testBit_eq
  intro i
  simp [Nat.testBit_div_two_pow]
theorem turn_next (a b k : Nat) : (a ^^^ b) % 2 ^ (k + 1) = (a ^^^ b) % 2 ^ k + 2 ^ k * ((a / 2 ^ k % 2 + b / 2 ^ k % 2) % 2) := by
  rw [← xor_odd, ← xor_pow, Nat.pow_succ, Nat.mod_mul]
theorem half_next (a k : Nat) : a / 2 ^ (k + 1) = a / 2 ^ k / 2 := by rw [Nat.pow_succ, Nat.div_div_eq_div_mul]
theorem pow_lt {k : Nat} (h : k < 32) : 2 ^ k % 4294967296 = 2 ^ k ∧ 2 ^ k ≤ 2147483648 := by
  have : 2 ^ k ≤ 2 ^ 31 := Nat.pow_le_pow_right (by decide) (by omega)
  exact ⟨Nat.mod_eq_of_lt (by omega), this⟩
theorem pow_next (k : Nat) : 2 ^ k % 4294967296 * 2 % 4294967296 = 2 ^ (k + 1) % 4294967296 := by rw [Nat.pow_succ]; omega

set_option maxRecDepth 100000 in
theorem turn_any (a b : Nat) (w : World) (ha : a < 4294967296) (hb : b < 4294967296) : Ret Try.prog 44 #[.int .u32 (a : Nat), .int .u32 (b : Nat)] w (.int .u32 (a ^^^ b : Nat)) := by
  refine Ret.intro fun R hR => ?_
  have hx := xor_bd ha hb
  go_enter Try.func44, Try.ntmps44
  go_wp2
  go_loop [0, 1, 5, 6, 7] (fun (v0 v1 v5 v6 v7 : Value) => ∃ k x y m p : Nat, k ≤ 32 ∧ x = a / 2 ^ k ∧ y = b / 2 ^ k ∧ m = (a ^^^ b) % 2 ^ k ∧ p = 2 ^ k % 4294967296 ∧ v0 = .int .u32 (x : Nat) ∧ v1 = .int .u32 (y : Nat) ∧ v5 = .int .u32 (m : Nat) ∧ v6 = .int .u32 (p : Nat) ∧ v7 = .int .i64 (k : Int)) (fun (v0 v1 v5 v6 v7 : Value) => (32 - intOf v7).toNat)
  case atStart => exact ⟨0, a, b, 0, 1, by omega, by simp, by simp, by simp [Nat.mod_one], rfl, rfl, rfl, rfl, rfl, rfl⟩
  case round =>
    obtain ⟨k, x, y, m, p, hk, hx0, hy0, hm0, hp0, rfl, rfl, rfl, rfl, rfl⟩ := hrel
    have bx : x < 4294967296 := hx0 ▸ Nat.lt_of_le_of_lt (Nat.div_le_self _ _) ha
    have bY : y < 4294967296 := hy0 ▸ Nat.lt_of_le_of_lt (Nat.div_le_self _ _) hb
    have bp : p < 4294967296 := hp0 ▸ Nat.mod_lt _ (by decide)
    by_cases hlt : k < 32
    · obtain ⟨q1, q2⟩ := pow_lt hlt
      have bm : m + p < 4294967296 := by
        have h1 : m < 2 ^ k := hm0 ▸ Nat.mod_lt _ (Nat.two_pow_pos k)
        omega
      have n1 := Lib.hid ((congrArg (· / 2) hx0).trans (half_next a k).symm)
      have n2 := Lib.hid ((congrArg (· / 2) hy0).trans (half_next b k).symm)
      have n3 := Lib.hid ((congrArg (fun t => t * 2 % 4294967296) hp0).trans (pow_next k))
      have n4 := turn_next a b k
      rw [← hx0, ← hy0, ← hm0, ← q1, ← hp0] at n4
      clear hx0 hy0 hm0 hp0 q1 q2
      have e1 : (x : Int) % 2 = ((x % 2 : Nat) : Int) := by omega
      by_cases hxy : x % 2 = y % 2
      · have n5 : m = (a ^^^ b) % 2 ^ (k + 1) := by rw [n4, hxy, show (y % 2 + y % 2) % 2 = 0 by omega]; omega
        have n5 := Lib.hid n5
        clear n4 e1
        have hd : ((x : Int) % 2 == (y : Int) % 2) = true := by simp; omega
        go_wp2
        go_round
        case rel => exact ⟨k + 1, x / 2, y / 2, m, p * 2 % 4294967296, by omega, n1.out, n2.out, n5.out, n3.out, rfl, rfl, rfl, by go_num, by go_num⟩
        case measure => simp [intOf]; omega
      · have n5 : m + p = (a ^^^ b) % 2 ^ (k + 1) := by rw [n4, show (x % 2 + y % 2) % 2 = 1 by omega]; omega
        have n5 := Lib.hid n5
        clear n4 e1
        have hd : ((x : Int) % 2 == (y : Int) % 2) = false := by simp; omega
        go_wp2
        go_round
        case rel => exact ⟨k + 1, x / 2, y / 2, m + p, p * 2 % 4294967296, by omega, n1.out, n2.out, n5.out, n3.out, rfl, rfl, by go_num, by go_num, by go_num⟩
        case measure => simp [intOf]; omega
    · have hk32 : k = 32 := by omega
      subst hk32
      rw [show (2 : Nat) ^ 32 = 4294967296 by decide, Nat.mod_eq_of_lt hx] at hm0
      have hm := Lib.hid hm0
      clear hm0 hx0 hy0 hp0
      go_wp2
      exact fin hR (by rw [hm.out])
set_option maxRecDepth 100000 in
theorem rmore_any (s : Nat) (l : List UInt8) (w : World) (hs : s < 4294967296) (hl : l.length ≤ maxLen) : Ret Try.prog 34 #[.int .u32 (s : Nat), .string (S l)] w (.int .u32 (crcMore s l : Nat)) := by
  refine Ret.intro fun R hR => ?_
  have hl' := hl
  unfold maxLen at hl'
  have hn : (4294967295 - (s : Int)) = ((4294967295 - s : Nat) : Int) := by omega
  obtain ⟨c0, hc0⟩ : ∃ c, c = 4294967295 - s := ⟨_, rfl⟩
  have hc0b : c0 < 4294967296 := by omega
  rw [← hc0] at hn
  have hcm : crcMore s l = 4294967295 - crcFold c0 l := by rw [hc0]; rfl
  rw [hcm] at hR
  clear hcm hc0 hl
  go_enter Try.func34, Try.ntmps34
  go_wp2
  go_loop [5, 6] (fun (v5 v6 : Value) => ∃ k c : Nat, k ≤ l.length ∧ c = crcFold c0 (l.take k) ∧ v5 = .int .u32 (c : Nat) ∧ v6 = .int .i64 (k : Int)) (fun (v5 v6 : Value) => (l.length - intOf v6).toNat)
  case atStart => exact ⟨0, c0, by omega, by simp [crcFold], by rw [← hn], rfl⟩
  case round =>
    obtain ⟨k, c, hk, hc, rfl, rfl⟩ := hrel
    have hf : c < 4294967296 := hc ▸ fold_bd hc0b
    by_cases hlt : k < l.length
    · have hlS : k < (S l).size := by rw [S_size]; exact hlt
      have hb : ((S l)[k]'hlS).toNat < 256 := UInt8.toNat_lt _
      have he := Lib.hid (show by8 c ((S l)[k]'hlS).toNat = crcFold c0 (l.take (k + 1)) by
        rw [List.take_succ_eq_append_getElem hlt, fold_snoc, ← hc]; rfl)
      have ht := fun w => turn_any c ((S l)[k]'hlS).toNat w hf (by omega)
      have hxb := xor_bd hf (show ((S l)[k]'hlS).toNat < 4294967296 by omega)
      clear hc
      obtain ⟨x, hx⟩ : ∃ x, x = c ^^^ ((S l)[k]'hlS).toNat := ⟨_, rfl⟩
      rw [← hx] at ht hxb
      have he : bitN 8 x = crcFold c0 (l.take (k + 1)) := by rw [hx]; exact he.out
      have he := Lib.hid he
      clear hx
      go_wp2_with (go_at_call 44; refine (ht _).use ?_)
      go_loop [5, 7, 8] (fun (v5 v7 v8 : Value) => ∃ j d : Nat, j ≤ 8 ∧ d = bitN j x ∧ v5 = .int .u32 (d : Nat) ∧ v7 = .int .i64 (j : Int)) (fun (v5 v7 v8 : Value) => (8 - intOf v7).toNat)
      case atStart => exact ⟨0, x, by omega, rfl, rfl, rfl⟩
      case round =>
        obtain ⟨j, d, hj, hd, rfl, rfl⟩ := hrel
        have hdb : d < 4294967296 := hd ▸ bitN_bd hxb j
        by_cases hj8 : j < 8
        · have hn := Lib.hid (show bit1 d = bitN (j + 1) x by rw [hd]; rfl)
          clear hd
          by_cases ho : d % 2 = 1
          · have hb1 : bit1 d = d / 2 ^^^ 3988292384 := by unfold bit1; rw [if_pos ho]
            have hb1 := Lib.hid hb1
            have ht2 := fun w => turn_any (d / 2) 3988292384 w (by omega) (by decide)
            rw [show ((d / 2 : Nat) : Int) = (d : Int) / 2 by omega] at ht2
            have hod : ((d : Int) % 2 == 1) = true := by simp; omega
            go_wp2_with (go_at_call 44; refine (ht2 _).use ?_)
            go_round
            case rel => exact ⟨j + 1, _, by omega, hb1.out.symm.trans hn.out, rfl, by go_num⟩
            case measure => simp [intOf]; omega
          · have hb1 : bit1 d = d / 2 := by unfold bit1; rw [if_neg ho]
            have hb1 := Lib.hid hb1
            have hod : ((d : Int) % 2 == 1) = false := by simp; omega
            go_wp2
            go_round
            case rel => exact ⟨j + 1, _, by omega, hb1.out.symm.trans hn.out, by go_num, by go_num⟩
            case measure => simp [intOf]; omega
        · have hj9 : j = 8 := by omega
          subst hj9
          have hd := Lib.hid (hd.trans he.out)
          go_wp2
          go_round
          case rel => exact ⟨k + 1, d, by omega, hd.out, rfl, by go_num⟩
          case measure => simp [intOf]; omega
    · have hkl : k = l.length := by omega
      subst hkl
      rw [List.take_length] at hc
      have hc := Lib.hid hc
      go_wp2
      exact fin hR (veq_int (by rw [← hc.out]; omega))
theorem rsum_any (l : List UInt8) (w : World) (hl : l.length ≤ maxLen) : Ret Try.prog 32 #[.string (S l)] w (.int .u32 (crcSum l : Nat)) := by
  refine Ret.intro fun R hR => ?_
  have hc := fun w => (rmore_any 0 l w (by decide) hl).cast (v' := .int .u32 (crcSum l : Nat)) rfl
  go_enter Try.func32, Try.ntmps32
  go_wp2_with (go_at_call 34; refine (hc _).use ?_)
  exact fin hR rfl
end Go.Proofs.Ytdgeljfiobmkcaa
