import Derived.Test.YtohplhahghilaaaCrcA
import Derived.Test.YtohplhahghilaaaVarX
import Derived.Deep.RegionHeld3
import Derived.Test.YtohplhahghilaaaCrcP
/-
  Several texts in one: CrcB, CrcR, CrcS, Fix2, CrcQ.
-/
set_option linter.unusedVariables false
set_option linter.unusedSimpArgs false
namespace Go.Proofs.Ytohplhahghilaaa
open Go.RowKit
attribute [local go_sem] ByteArray.extract_mk ByteArray.mk_append_mk

theorem sum_any (l : List UInt8) (w : World) (hl : l.length ≤ maxLen) : RetB Try.prog 50 #[.string (S l)] w (.int .u32 (crcSum l : Nat)) := by
  refine RetB.intro fun R hR => ?_
  have hc := fun w => (more_any 0 l w (by decide) hl).cast (v' := .int .u32 (crcSum l : Nat)) rfl
  go_enter Try.func50, Try.ntmps50
  go_wp2_with (go_at_call 75; refine (hc _).use ?_; intro w1 hb1)
  exact finB hR hb1 rfl
def quad (n k : Nat) : List Value := (List.range 4).map fun i => .int .u8 ((if i < k then n / 256 ^ i % 256 else 0 : Nat) : Int)
theorem quad_set (n k : Nat) (h : k < 4) : (quad n k).set k (.int .u8 (n / 256 ^ k % 256 : Nat)) = quad n (k + 1) := by
  apply List.ext_getElem
  · simp [quad]
  · intro i h1 h2
    simp only [quad, List.getElem_set, List.getElem_map, List.getElem_range]
    by_cases e : k = i
    · subst e; simp
    · rw [if_neg e]
      by_cases e2 : i < k
      · rw [if_pos e2, if_pos (by omega)]
      · rw [if_neg e2, if_neg (by omega)]
theorem quad_get (n i : Nat) (h : i < 4) : (quad n 4)[i]? = some (.int .u8 (n / 256 ^ i % 256 : Nat)) := by simp [quad, h]
def quadNs (n : Nat) : List Int := [((n % 256 : Nat) : Int), ((n / 256 % 256 : Nat) : Int), ((n / 65536 % 256 : Nat) : Int), ((n / 16777216 % 256 : Nat) : Int)]
theorem quadNs_str {n : Nat} (hn : n < 4294967296) : strOfNums (quadNs n) = S (four n) := by
  have : n / 16777216 % 256 = n / 16777216 := Nat.mod_eq_of_lt (by omega)
  simp only [strOfNums, quadNs, S, four, List.map, this, Int.toNat_natCast]
theorem quad_set0 (n : Nat) : (quad n 0).set 0 (.int .u8 ((n : Int) % 256)) = quad n 1 := by
  rw [← quad_set n 0 (by decide)]; congr 2; simp only [Nat.pow_zero]; omega
theorem quad_set1 (n : Nat) : (quad n 1).set 1 (.int .u8 ((n : Int) / 256 % 256)) = quad n 2 := by
  rw [← quad_set n 1 (by decide)]; congr 2
theorem quad_set2 (n : Nat) : (quad n 2).set 2 (.int .u8 ((n : Int) / 65536 % 256)) = quad n 3 := by
  rw [← quad_set n 2 (by decide)]; congr 2
theorem quad_set3 {n : Nat} (hn : n < 4294967296) : (quad n 3).set 3 (.int .u8 ((n : Int) / 16777216)) = quad n 4 := by
  rw [← quad_set n 3 (by decide)]; congr 2; rw [show (256 : Nat) ^ 3 = 16777216 by decide]; omega
set_option maxRecDepth 100000 in
theorem laid_any (n : Nat) (w : World) (hn : n < 4294967296) : RetB Try.prog 78 #[.int .u32 (n : Nat)] w (.string (S (four n))) := by
  refine RetB.intro fun R hR => ?_
  have hmk : ∀ w, (Instr.makeSlice 75 (.int .i64 4) (.int .i64 4)).run Try.prog w = .ok (.slice (some ⟨w.heap.size, 0, none⟩) 4 4) (w.alloc (.cells #[.int .u8 0, .int .u8 0, .int .u8 0, .int .u8 0] 5)) := fun _ => by kernel_rfl
  go_enter Try.func78, Try.ntmps78
  go_wp2
  clear hmk
  go_loopw [8] (fun (v8 : Value) (w1 : World) => ∃ k : Nat, k ≤ 4 ∧ v8 = .int .i64 (k : Int) ∧ w1 = w.alloc (.cells (quad n k).toArray 5)) (fun (v8 : Value) (w1 : World) => (4 - intOf v8).toNat)
  case atStart => exact ⟨0, by omega, rfl, rfl⟩
  case round =>
    obtain ⟨k, hk, rfl, rfl⟩ := hrel
    have hl : (quad n k).length = 4 := rfl
    rcases (by omega : k = 0 ∨ k = 1 ∨ k = 2 ∨ k = 3 ∨ k = 4) with rfl | rfl | rfl | rfl | rfl
    · go_wp2
      go_roundw
      case rel => exact ⟨1, by omega, by go_num, by rw [quad_set0]⟩
      case measure => simp [intOf]
    · go_wp2
      go_roundw
      case rel => exact ⟨2, by omega, by go_num, by rw [quad_set1]⟩
      case measure => simp [intOf]
    · go_wp2
      go_roundw
      case rel => exact ⟨3, by omega, by go_num, by rw [quad_set2]⟩
      case measure => simp [intOf]
    · go_wp2
      go_roundw
      case rel => exact ⟨4, by omega, by go_num, by rw [quad_set3 hn]⟩
      case measure => simp [intOf]
    · have hcv := run_convert_bytes_arg (P := Try.prog) (w.alloc (.cells (quad n 4).toArray 5)) 75 5 Try.underlying75 Try.underlying5 w.heap.size 0 4 4 (quadNs n) rfl (by
        intro i hi
        rw [Nat.zero_add, World.cell?_alloc_new, List.getElem?_toArray, quad_get n i hi]
        rcases (by omega : i = 0 ∨ i = 1 ∨ i = 2 ∨ i = 3) with rfl | rfl | rfl | rfl <;> simp [quadNs]) 9 Try.underlying9
      rw [quadNs_str hn] at hcv
      go_wp2
      exact finB hR ((Below.refl _ _).alloc (Nat.le_refl _) _) rfl

theorem vtxt_le (l : List UInt8) : (vtxt l).length ≤ l.length + 10 := by
  have := vput_le l.length
  unfold vtxt
  rw [List.length_append]
  omega
theorem frame_any (l : List UInt8) (w : World) (hl : l.length ≤ 9000000000000000000) : RetB Try.prog 53 #[.string (S l)] w (.string (S (crcFrame l))) := by
  refine RetB.intro fun R hR => ?_
  have hc := fun w => sum_any l w (by unfold maxLen; omega)
  have hb := sum_bd l
  have hd := fun w => laid_any (crcSum l) w hb
  have ht := fun w => puttext_any l w hl
  have hv := vtxt_le l
  have h4 := four_len (crcSum l)
  have hf : crcFrame l = vtxt l ++ four (crcSum l) := rfl
  rw [hf, ← S_append] at hR
  clear hf
  generalize four (crcSum l) = f4 at *
  generalize vtxt l = v at *
  have hle : ¬ 9223372036854775807 < v.length + f4.length := by omega
  have h4 := Lib.hid h4
  go_enter Try.func53, Try.ntmps53
  go_wp2_with (first | (go_at_call 77; refine (ht _).use ?_; intro w1 hb1) | (go_at_call 50; refine (hc _).use ?_; intro w2 hb2) | (go_at_call 78; refine (hd _).use ?_; intro w3 hb3))
  exact finB hR (below_any (Nat.le_refl _) (below_any (Nat.le_refl _) hb1 hb2) hb3) rfl

set_option maxHeartbeats 1000000 in
set_option maxRecDepth 100000 in
theorem cut_any (l : List UInt8) (p most : Int) (w : World) (hl : l.length ≤ 9000000000000000000) (hm : most ≤ 9223372036854775807) :
    RetB Try.prog 57 #[.string (S l), .int .i64 p, .int .i64 most] w (.tuple #[.string (S (crcCut l p most).1), .int .i64 (crcCut l p most).2.1, .int .i64 (crcCut l p most).2.2]) := by
  refine RetB.intro fun R hR => ?_
  obtain ⟨t, to, e, hv⟩ : ∃ t to e, vtext l p most = (t, to, e) := ⟨_, _, _, rfl⟩
  obtain ⟨b1, b2, b3⟩ := vtext_bd hv
  have hc := fun w => vtext_eq hv w (by unfold maxLen; omega) hm
  unfold crcCut at hR
  rw [hv] at hR
  simp only at hR
  clear hv hm
  by_cases h0 : e = 0
  · subst h0
    obtain ⟨c1, c2, c3, c4, c5, c6⟩ := b1 rfl
    clear b1 b2 b3
    rw [if_neg (by decide)] at hR
    obtain ⟨to, rfl⟩ := Int.eq_ofNat_of_zero_le c3
    by_cases h1 : (l.length : Int) - to < 4
    · rw [if_pos h1] at hR
      go_enter Try.func57, Try.ntmps57
      go_wp2_with (go_at_call 81; refine (hc _).use ?_)
      go_ret3
      exact finB hR (Below.refl _ _) rfl
    · rw [if_neg h1, Int.toNat_natCast] at hR
      have htl : t.length ≤ l.length := by omega
      have hcs := fun w => sum_any t w (by unfold maxLen; omega)
      have hb := sum_bd t
      have hd := fun w => laid_any (crcSum t) w hb
      have hsl : (l.drop to).take 4 = (l.drop to).take (((to : Int) + 4).toNat - to) := by rw [show ((to : Int) + 4).toNat - to = 4 by omega]
      rw [hsl] at hR
      clear hsl
      generalize four (crcSum t) = f4 at *
      have h1b : decide ((l.length : Int) - to < 4) = false := decide_eq_false h1
      have g0 : (0 : Int) ≤ (to : Int) := by omega
      have g1 : (to : Int) ≤ (to : Int) + 4 := by omega
      have g2 : (to : Int) + 4 ≤ (l.length : Int) := by omega
      have g3 : (0 : Int) ≤ (to : Int) + 4 := by omega
      have hw : IntKind.i64.wrap ((to : Int) + 4) = (to : Int) + 4 := by rw [IntKind.wrap_i64]; omega
      by_cases h2 : (l.drop to).take (((to : Int) + 4).toNat - to) = f4
      · rw [if_neg (by simpa using h2)] at hR
        have hq : ((l.drop to).take (((to : Int) + 4).toNat - to) == f4) = true := by simpa using h2
        clear h2
        go_enter Try.func57, Try.ntmps57
        go_wp2_with (go_at_call 81; refine (hc _).use ?_)
        go_region_held3 (fun _ => True) (trivial) (first | (go_at_call 50; refine (hcs _).use ?_; intro w2 hb2) | (go_at_call 78; refine (hd _).use ?_; intro w3 hb3))
        go_wp2
        go_ret3
        exact finB hR (below_any (w1 := w2) (Nat.le_refl _) (below_any (w1 := w.drew) (Nat.le_refl _) (Below.refl _ _).drew hb2) hb3) rfl
      · rw [if_pos h2] at hR
        have hq : ((l.drop to).take (((to : Int) + 4).toNat - to) == f4) = false := by simpa using h2
        clear h2
        go_enter Try.func57, Try.ntmps57
        go_wp2_with (go_at_call 81; refine (hc _).use ?_)
        go_region_held3 (fun _ => True) (trivial) (first | (go_at_call 50; refine (hcs _).use ?_; intro w2 hb2) | (go_at_call 78; refine (hd _).use ?_; intro w3 hb3))
        go_wp2
        go_ret3
        exact finB hR (below_any (w1 := w2) (Nat.le_refl _) (below_any (w1 := w.drew) (Nat.le_refl _) (Below.refl _ _).drew hb2) hb3) rfl
  · rw [if_pos h0] at hR
    have h0' : (e == 0) = false := by simpa using h0
    obtain ⟨rfl, rfl⟩ := b2 h0
    clear b1 b2 b3
    go_enter Try.func57, Try.ntmps57
    go_wp2_with (go_at_call 81; refine (hc _).use ?_)
    go_ret3
    exact finB hR (Below.refl _ _) rfl
end Go.Proofs.Ytohplhahghilaaa

set_option linter.unusedVariables false
set_option linter.unusedSimpArgs false
namespace Go.Proofs.Ytohplhahghilaaa
open Go.RowKit

theorem xor_pow (a b k : Nat) : (a ^^^ b) / 2 ^ k = a / 2 ^ k ^^^ b / 2 ^ k := by
  apply Nat.eq_of_testBit_eq
  intro i
  simp [Nat.testBit_div_two_pow]
theorem turn_next (a b k : Nat) : (a ^^^ b) % 2 ^ (k + 1) = (a ^^^ b) % 2 ^ k + 2 ^ k * ((a / 2 ^ k % 2 + b / 2 ^ k % 2) % 2) := by
  rw [← xor_odd, ← xor_pow, Nat.pow_succ, Nat.mod_mul]
theorem half_next (a k : Nat) : a / 2 ^ (k + 1) = a / 2 ^ k / 2 := by rw [Nat.pow_succ, Nat.div_div_eq_div_mul]
theorem pow_lt {k : Nat} (h : k < 32) : 2 ^ k % 4294967296 = 2 ^ k ∧ 2 ^ k ≤ 2147483648 := by
  have : 2 ^ k ≤ 2 ^ 31 := Nat.pow_le_pow_right (by decide) (by omega)
  exact ⟨Nat.mod_eq_of_lt (by omega), this⟩
theorem pow_next (k : Nat) : 2 ^ k % 4294967296 * 2 % 4294967296 = 2 ^ (k + 1) % 4294967296 := by rw [Nat.pow_succ]; omega

set_option maxRecDepth 100000 in
theorem turn_any (a b : Nat) (w : World) (ha : a < 4294967296) (hb : b < 4294967296) : Ret Try.prog 88 #[.int .u32 (a : Nat), .int .u32 (b : Nat)] w (.int .u32 (a ^^^ b : Nat)) := by
  refine Ret.intro fun R hR => ?_
  have hx := xor_bd ha hb
  go_enter Try.func88, Try.ntmps88
  go_wp2
  go_loop [0, 1, 5, 6, 7] (fun (v0 v1 v5 v6 v7 : Value) => ∃ k x y m p : Nat, k ≤ 32 ∧ x = a / 2 ^ k ∧ y = b / 2 ^ k ∧ m = (a ^^^ b) % 2 ^ k ∧ p = 2 ^ k % 4294967296 ∧ v0 = .int .u32 (x : Nat) ∧ v1 = .int .u32 (y : Nat) ∧ v5 = .int .u32 (m : Nat) ∧ v6 = .int .u32 (p : Nat) ∧ v7 = .int .i64 (k : Int)) (fun (v0 v1 v5 v6 v7 : Value) => (32 - intOf v7).toNat)
  case atStart => exact ⟨0, a, b, 0, 1, by omega, by simp, by simp, by simp [Nat.mod_one], rfl, rfl, rfl, rfl, rfl, rfl⟩
  case round =>
    obtain ⟨k, x, y, m, p, hk, hx0, hy0, hm0, hp0, rfl, rfl, rfl, rfl, rfl⟩ := hrel
    have bx : x < 4294967296 := hx0 ▸ Nat.lt_of_le_of_lt (Nat.div_le_self _ _) ha
    have bY : y < 4294967296 := hy0 ▸ Nat.lt_of_le_of_lt (Nat.div_le_self _ _) hb
    have bp : p < 4294967296 := hp0 ▸ Nat.mod_lt _ (by decide)
    by_cases hlt : k < 32
    · obtain ⟨q1, q2⟩ := pow_lt hlt
      have bm : m + p < 4294967296 := by
        have h1 : m < 2 ^ k := hm0 ▸ Nat.mod_lt _ (Nat.two_pow_pos k)
        omega
      have n1 := Lib.hid ((congrArg (· / 2) hx0).trans (half_next a k).symm)
      have n2 := Lib.hid ((congrArg (· / 2) hy0).trans (half_next b k).symm)
      have n3 := Lib.hid ((congrArg (fun t => t * 2 % 4294967296) hp0).trans (pow_next k))
      have n4 := turn_next a b k
      rw [← hx0, ← hy0, ← hm0, ← q1, ← hp0] at n4
      clear hx0 hy0 hm0 hp0 q1 q2
      have e1 : (x : Int) % 2 = ((x % 2 : Nat) : Int) := by omega
      by_cases hxy : x % 2 = y % 2
      · have n5 : m = (a ^^^ b) % 2 ^ (k + 1) := by rw [n4, hxy, show (y % 2 + y % 2) % 2 = 0 by omega]; omega
        have n5 := Lib.hid n5
        clear n4 e1
        have hd : ((x : Int) % 2 == (y : Int) % 2) = true := by simp; omega
        go_wp2
        go_round
        case rel => exact ⟨k + 1, x / 2, y / 2, m, p * 2 % 4294967296, by omega, n1.out, n2.out, n5.out, n3.out, rfl, rfl, rfl, by go_num, by go_num⟩
        case measure => simp [intOf]; omega
      · have n5 : m + p = (a ^^^ b) % 2 ^ (k + 1) := by rw [n4, show (x % 2 + y % 2) % 2 = 1 by omega]; omega
        have n5 := Lib.hid n5
        clear n4 e1
        have hd : ((x : Int) % 2 == (y : Int) % 2) = false := by simp; omega
        go_wp2
        go_round
        case rel => exact ⟨k + 1, x / 2, y / 2, m + p, p * 2 % 4294967296, by omega, n1.out, n2.out, n5.out, n3.out, rfl, rfl, by go_num, by go_num, by go_num⟩
        case measure => simp [intOf]; omega
    · have hk32 : k = 32 := by omega
      subst hk32
      rw [show (2 : Nat) ^ 32 = 4294967296 by decide, Nat.mod_eq_of_lt hx] at hm0
      have hm := Lib.hid hm0
      clear hm0 hx0 hy0 hp0
      go_wp2
      exact fin hR (by rw [hm.out])
set_option maxRecDepth 100000 in
theorem rmore_any (s : Nat) (l : List UInt8) (w : World) (hs : s < 4294967296) (hl : l.length ≤ maxLen) : Ret Try.prog 76 #[.int .u32 (s : Nat), .string (S l)] w (.int .u32 (crcMore s l : Nat)) := by
  refine Ret.intro fun R hR => ?_
  have hl' := hl
  unfold maxLen at hl'
  have hn : (4294967295 - (s : Int)) = ((4294967295 - s : Nat) : Int) := by omega
  obtain ⟨c0, hc0⟩ : ∃ c, c = 4294967295 - s := ⟨_, rfl⟩
  have hc0b : c0 < 4294967296 := by omega
  rw [← hc0] at hn
  have hcm : crcMore s l = 4294967295 - crcFold c0 l := by rw [hc0]; rfl
  rw [hcm] at hR
  clear hcm hc0 hl
  go_enter Try.func76, Try.ntmps76
  go_wp2
  go_loop [5, 6] (fun (v5 v6 : Value) => ∃ k c : Nat, k ≤ l.length ∧ c = crcFold c0 (l.take k) ∧ v5 = .int .u32 (c : Nat) ∧ v6 = .int .i64 (k : Int)) (fun (v5 v6 : Value) => (l.length - intOf v6).toNat)
  case atStart => exact ⟨0, c0, by omega, by simp [crcFold], by rw [← hn], rfl⟩
  case round =>
    obtain ⟨k, c, hk, hc, rfl, rfl⟩ := hrel
    have hf : c < 4294967296 := hc ▸ fold_bd hc0b
    by_cases hlt : k < l.length
    · have hlS : k < (S l).size := by rw [S_size]; exact hlt
      have hb : ((S l)[k]'hlS).toNat < 256 := UInt8.toNat_lt _
      have he := Lib.hid (show by8 c ((S l)[k]'hlS).toNat = crcFold c0 (l.take (k + 1)) by
        rw [List.take_succ_eq_append_getElem hlt, fold_snoc, ← hc]; rfl)
      have ht := fun w => turn_any c ((S l)[k]'hlS).toNat w hf (by omega)
      have hxb := xor_bd hf (show ((S l)[k]'hlS).toNat < 4294967296 by omega)
      clear hc
      obtain ⟨x, hx⟩ : ∃ x, x = c ^^^ ((S l)[k]'hlS).toNat := ⟨_, rfl⟩
      rw [← hx] at ht hxb
      have he : bitN 8 x = crcFold c0 (l.take (k + 1)) := by rw [hx]; exact he.out
      have he := Lib.hid he
      clear hx
      go_wp2_with (go_at_call 88; refine (ht _).use ?_)
      go_loop [5, 7, 8] (fun (v5 v7 v8 : Value) => ∃ j d : Nat, j ≤ 8 ∧ d = bitN j x ∧ v5 = .int .u32 (d : Nat) ∧ v7 = .int .i64 (j : Int)) (fun (v5 v7 v8 : Value) => (8 - intOf v7).toNat)
      case atStart => exact ⟨0, x, by omega, rfl, rfl, rfl⟩
      case round =>
        obtain ⟨j, d, hj, hd, rfl, rfl⟩ := hrel
        have hdb : d < 4294967296 := hd ▸ bitN_bd hxb j
        by_cases hj8 : j < 8
        · have hn := Lib.hid (show bit1 d = bitN (j + 1) x by rw [hd]; rfl)
          clear hd
          by_cases ho : d % 2 = 1
          · have hb1 : bit1 d = d / 2 ^^^ 3988292384 := by unfold bit1; rw [if_pos ho]
            have hb1 := Lib.hid hb1
            have ht2 := fun w => turn_any (d / 2) 3988292384 w (by omega) (by decide)
            rw [show ((d / 2 : Nat) : Int) = (d : Int) / 2 by omega] at ht2
            have hod : ((d : Int) % 2 == 1) = true := by simp; omega
            go_wp2_with (go_at_call 88; refine (ht2 _).use ?_)
            go_round
            case rel => exact ⟨j + 1, _, by omega, hb1.out.symm.trans hn.out, rfl, by go_num⟩
            case measure => simp [intOf]; omega
          · have hb1 : bit1 d = d / 2 := by unfold bit1; rw [if_neg ho]
            have hb1 := Lib.hid hb1
            have hod : ((d : Int) % 2 == 1) = false := by simp; omega
            go_wp2
            go_round
            case rel => exact ⟨j + 1, _, by omega, hb1.out.symm.trans hn.out, by go_num, by go_num⟩
            case measure => simp [intOf]; omega
        · have hj9 : j = 8 := by omega
          subst hj9
          have hd := Lib.hid (hd.trans he.out)
          go_wp2
          go_round
          case rel => exact ⟨k + 1, d, by omega, hd.out, rfl, by go_num⟩
          case measure => simp [intOf]; omega
    · have hkl : k = l.length := by omega
      subst hkl
      rw [List.take_length] at hc
      have hc := Lib.hid hc
      go_wp2
      exact fin hR (veq_int (by rw [← hc.out]; omega))
theorem rsum_any (l : List UInt8) (w : World) (hl : l.length ≤ maxLen) : Ret Try.prog 51 #[.string (S l)] w (.int .u32 (crcSum l : Nat)) := by
  refine Ret.intro fun R hR => ?_
  have hc := fun w => (rmore_any 0 l w (by decide) hl).cast (v' := .int .u32 (crcSum l : Nat)) rfl
  go_enter Try.func51, Try.ntmps51
  go_wp2_with (go_at_call 76; refine (hc _).use ?_)
  exact fin hR rfl
end Go.Proofs.Ytohplhahghilaaa

set_option linter.unusedVariables false
set_option linter.unusedSimpArgs false
namespace Go.Proofs.Ytohplhahghilaaa
open Go.RowKit
attribute [local go_sem] ByteArray.extract_mk ByteArray.mk_append_mk

theorem conv4 (w : World) (x0 x1 x2 x3 : Int) : (convert 75 9 (.slice (some ⟨w.heap.size, 0, none⟩) 4 4)).run Try.prog (w.alloc (.cells #[.int .u8 x0, .int .u8 x1, .int .u8 x2, .int .u8 x3] 5)) =
    .ok (.string (strOfNums [x0, x1, x2, x3])) (w.alloc (.cells #[.int .u8 x0, .int .u8 x1, .int .u8 x2, .int .u8 x3] 5)) :=
  run_convert_bytes_arg (P := Try.prog) (w.alloc (.cells #[.int .u8 x0, .int .u8 x1, .int .u8 x2, .int .u8 x3] 5)) 75 5 Try.underlying75 Try.underlying5 w.heap.size 0 4 4 [x0, x1, x2, x3] rfl (by
    intro i hi
    rw [Nat.zero_add, World.cell?_alloc_new]
    rcases (by omega : i = 0 ∨ i = 1 ∨ i = 2 ∨ i = 3) with rfl | rfl | rfl | rfl <;> rfl) 9 Try.underlying9
theorem rfour_any (n : Nat) (w : World) (hn : n < 4294967296) : RetB Try.prog 79 #[.int .u32 (n : Nat)] w (.string (S (four n))) := by
  refine RetB.intro fun R hR => ?_
  have hcv := conv4
  have hs := quadNs_str hn
  have hq : quadNs n = [(n : Int) % 256, (n : Int) / 256 % 256, (n : Int) / 65536 % 256, (n : Int) / 16777216] := by
    simp only [quadNs]; rw [show n / 16777216 % 256 = n / 16777216 from Nat.mod_eq_of_lt (by omega)]; rfl
  rw [← hs, hq] at hR
  clear hs hq
  go_enter Try.func79, Try.ntmps79
  go_wp2
  exact finB hR ((Below.refl _ _).alloc (Nat.le_refl _) _) rfl
theorem rframe_any (l : List UInt8) (w : World) (hl : l.length ≤ 9000000000000000000) : RetB Try.prog 55 #[.string (S l)] w (.string (S (crcFrame l))) := by
  refine RetB.intro fun R hR => ?_
  have hc := fun w => rsum_any l w (by unfold maxLen; omega)
  have hb := sum_bd l
  have hd := fun w => rfour_any (crcSum l) w hb
  have ht := fun w => rtext_any l w hl
  have hv := vtxt_le l
  have h4 := four_len (crcSum l)
  have hf : crcFrame l = vtxt l ++ four (crcSum l) := rfl
  rw [hf, ← S_append] at hR
  clear hf
  generalize four (crcSum l) = f4 at *
  generalize vtxt l = v at *
  have hle : ¬ 9223372036854775807 < v.length + f4.length := by omega
  have h4 := Lib.hid h4
  go_enter Try.func55, Try.ntmps55
  go_wp2_with (first | (go_at_call 71; refine (ht _).use ?_; intro w1 hb1) | (go_at_call 51; refine (hc _).use ?_) | (go_at_call 79; refine (hd _).use ?_; intro w3 hb3))
  exact finB hR (below_any (Nat.le_refl _) hb1 hb3) rfl

set_option maxHeartbeats 1000000 in
set_option maxRecDepth 100000 in
theorem rcut_any (l : List UInt8) (p most : Int) (w : World) (hl : l.length ≤ 9000000000000000000) (hm : most ≤ 9223372036854775807) :
    RetB Try.prog 59 #[.string (S l), .int .i64 p, .int .i64 most] w (.tuple #[.string (S (crcCut l p most).1), .int .i64 (crcCut l p most).2.1, .int .i64 (crcCut l p most).2.2]) := by
  refine RetB.intro fun R hR => ?_
  obtain ⟨t, to, e, hv⟩ : ∃ t to e, vtext l p most = (t, to, e) := ⟨_, _, _, rfl⟩
  obtain ⟨b1, b2, b3⟩ := vtext_bd hv
  have hc := fun w => rvtext_eq hv w (by unfold maxLen; omega) hm
  unfold crcCut at hR
  rw [hv] at hR
  simp only at hR
  clear hv hm
  by_cases h0 : e = 0
  · subst h0
    obtain ⟨c1, c2, c3, c4, c5, c6⟩ := b1 rfl
    clear b1 b2 b3
    rw [if_neg (by decide)] at hR
    obtain ⟨to, rfl⟩ := Int.eq_ofNat_of_zero_le c3
    by_cases h1 : (l.length : Int) - to < 4
    · rw [if_pos h1] at hR
      go_enter Try.func59, Try.ntmps59
      go_wp2_with (go_at_call 73; refine (hc _).use ?_)
      go_ret3
      exact finB hR (Below.refl _ _) rfl
    · rw [if_neg h1, Int.toNat_natCast] at hR
      have htl : t.length ≤ l.length := by omega
      have hcs := fun w => rsum_any t w (by unfold maxLen; omega)
      have hb := sum_bd t
      have hd := fun w => rfour_any (crcSum t) w hb
      have hsl : (l.drop to).take 4 = (l.drop to).take (((to : Int) + 4).toNat - to) := by rw [show ((to : Int) + 4).toNat - to = 4 by omega]
      rw [hsl] at hR
      clear hsl
      generalize four (crcSum t) = f4 at *
      have h1b : decide ((l.length : Int) - to < 4) = false := decide_eq_false h1
      have g0 : (0 : Int) ≤ (to : Int) := by omega
      have g1 : (to : Int) ≤ (to : Int) + 4 := by omega
      have g2 : (to : Int) + 4 ≤ (l.length : Int) := by omega
      have g3 : (0 : Int) ≤ (to : Int) + 4 := by omega
      have hw : IntKind.i64.wrap ((to : Int) + 4) = (to : Int) + 4 := by rw [IntKind.wrap_i64]; omega
      by_cases h2 : (l.drop to).take (((to : Int) + 4).toNat - to) = f4
      · rw [if_neg (by simpa using h2)] at hR
        have hq : ((l.drop to).take (((to : Int) + 4).toNat - to) == f4) = true := by simpa using h2
        clear h2
        go_enter Try.func59, Try.ntmps59
        go_wp2_with (go_at_call 73; refine (hc _).use ?_)
        go_region_held3 (fun _ => True) (trivial) (first | (go_at_call 51; refine (hcs _).use ?_) | (go_at_call 79; refine (hd _).use ?_; intro w3 hb3))
        go_wp2
        go_ret3
        exact finB hR (below_any (w1 := w.drew) (Nat.le_refl _) (Below.refl _ _).drew hb3) rfl
      · rw [if_pos h2] at hR
        have hq : ((l.drop to).take (((to : Int) + 4).toNat - to) == f4) = false := by simpa using h2
        clear h2
        go_enter Try.func59, Try.ntmps59
        go_wp2_with (go_at_call 73; refine (hc _).use ?_)
        go_region_held3 (fun _ => True) (trivial) (first | (go_at_call 51; refine (hcs _).use ?_) | (go_at_call 79; refine (hd _).use ?_; intro w3 hb3))
        go_wp2
        go_ret3
        exact finB hR (below_any (w1 := w.drew) (Nat.le_refl _) (Below.refl _ _).drew hb3) rfl
  · rw [if_pos h0] at hR
    have h0' : (e == 0) = false := by simpa using h0
    obtain ⟨rfl, rfl⟩ := b2 h0
    clear b1 b2 b3
    go_enter Try.func59, Try.ntmps59
    go_wp2_with (go_at_call 73; refine (hc _).use ?_)
    go_ret3
    exact finB hR (Below.refl _ _) rfl
end Go.Proofs.Ytohplhahghilaaa

set_option linter.unusedVariables false
set_option linter.unusedSimpArgs false
namespace Go.Proofs.Ytohplhahghilaaa
open Go.RowKit

theorem cut_eq {l : List UInt8} {p most : Int} {x : List UInt8} {t e : Int} (h : crcCut l p most = (x, t, e)) (w : World) (hl : l.length ≤ 9000000000000000000) (hm : most ≤ 9223372036854775807) :
    RetB Try.prog 57 #[.string (S l), .int .i64 p, .int .i64 most] w (.tuple #[.string (S x), .int .i64 t, .int .i64 e]) :=
  (cut_any l p most w hl hm).cast (by rw [h])
end Go.Proofs.Ytohplhahghilaaa

set_option linter.unusedVariables false
set_option linter.unusedSimpArgs false
namespace Go.Proofs.Ytohplhahghilaaa

theorem crcCut_of {l : List UInt8} {p most : Int} {t : List UInt8} {to : Int} (h : vtext l p most = (t, to, 0)) (h4 : 4 ≤ (l.length : Int) - to) (h5 : (l.drop to.toNat).take 4 = four (crcSum t)) : crcCut l p most = (t, to + 4, 0) := by
  unfold crcCut
  rw [h]
  simp only
  rw [if_neg (by decide), if_neg (by omega), if_neg (by simpa using h5)]
theorem crcCut_err {l : List UInt8} {p most : Int} {t : List UInt8} {to e : Int} (h : vtext l p most = (t, to, e)) (h0 : e ≠ 0) : crcCut l p most = ([], 0, e) := by
  unfold crcCut
  rw [h]
  simp only
  rw [if_pos h0]
theorem crcCut_frame (ahead a behind : List UInt8) (most : Int) (hl : a.length < 18446744073709551616) (hm : (a.length : Int) ≤ most) :
    crcCut (ahead ++ (crcFrame a ++ behind)) ahead.length most = (a, ((ahead.length + (crcFrame a).length : Nat) : Int), 0) := by
  have e : ahead ++ (crcFrame a ++ behind) = ahead ++ (vtxt a ++ (four (crcSum a) ++ behind)) := by simp [crcFrame, List.append_assoc]
  have h := vtext_put ahead a (four (crcSum a) ++ behind) most hl hm
  rw [e]
  have hf : (crcFrame a).length = (vtxt a).length + 4 := by simp [crcFrame, four_len]
  rw [crcCut_of h]
  · simp only [Prod.mk.injEq]; exact ⟨trivial, by omega, trivial⟩
  · simp only [List.length_append, four_len]; omega
  · rw [show ((ahead.length : Int) + (vtxt a).length).toNat = (ahead ++ vtxt a).length by rw [List.length_append]; omega, ← List.append_assoc, List.drop_left]
    rw [List.take_append_of_le_length (by rw [four_len]; exact Nat.le_refl _)]
    exact List.take_of_length_le (by rw [four_len]; exact Nat.le_refl _)
theorem crcCut_big (ahead a behind : List UInt8) (most : Int) (hl : a.length < 18446744073709551616) (hm : most < (a.length : Int)) :
    crcCut (ahead ++ (crcFrame a ++ behind)) ahead.length most = ([], 0, 2) := by
  have e : ahead ++ (crcFrame a ++ behind) = ahead ++ (vtxt a ++ (four (crcSum a) ++ behind)) := by simp [crcFrame, List.append_assoc]
  have h := vtext_big ahead a (four (crcSum a) ++ behind) most hl hm
  rw [e]
  exact crcCut_err h (by decide)
theorem crcFrame_le (a : List UInt8) : (crcFrame a).length ≤ a.length + 14 := by
  have := vtxt_le a
  simp only [crcFrame, List.length_append, four_len]
  omega
theorem rcut_eq {l : List UInt8} {p most : Int} {x : List UInt8} {t e : Int} (h : crcCut l p most = (x, t, e)) (w : World) (hl : l.length ≤ 9000000000000000000) (hm : most ≤ 9223372036854775807) :
    RetB Try.prog 59 #[.string (S l), .int .i64 p, .int .i64 most] w (.tuple #[.string (S x), .int .i64 t, .int .i64 e]) :=
  (rcut_any l p most w hl hm).cast (by rw [h])
theorem sum_eq {l : List UInt8} {x : Int} (h : (crcSum l : Int) = x) (w : World) (hl : l.length ≤ maxLen) : RetB Try.prog 50 #[.string (S l)] w (.int .u32 x) := (sum_any l w hl).cast (by rw [h])
theorem rsum_eq {l : List UInt8} {x : Int} (h : (crcSum l : Int) = x) (w : World) (hl : l.length ≤ maxLen) : Ret Try.prog 51 #[.string (S l)] w (.int .u32 x) := (rsum_any l w hl).cast (by rw [h])
theorem sum_parts (l : List UInt8) (k : Nat) : crcMore (crcSum (l.take k)) (l.drop k) = crcSum l := by
  unfold crcSum
  rw [more_more (by decide), List.take_append_drop]
theorem sum_none (l : List UInt8) : crcMore (crcSum l) [] = crcSum l := by
  unfold crcSum
  rw [more_more (by decide), List.append_nil]
theorem sum_snoc (l m : List UInt8) : crcMore (crcSum l) m = crcSum (l ++ m) := by
  unfold crcSum
  rw [more_more (by decide)]
end Go.Proofs.Ytohplhahghilaaa
