/-
  Layer 1: contracts of package varint's functions.
-/
import Derived.Test.YtikcpfoehapndaaProg
import Derived.Test.YtikcpfoehapndaaVarP
import Derived.Outline
import Derived.Lib.Hide
import Derived.IntWalk
set_option linter.unusedVariables false
set_option linter.unusedSimpArgs false
namespace Go.Proofs.Ytikcpfoehapndaa
open Go.RowKit
attribute [local go_sem] ByteArray.extract_mk ByteArray.mk_append_mk

theorem long_any (c k : Int) (w : World) : Ret Try.prog 52 #[.int .u8 c, .int .i64 k] w (.bool (longB c k)) := by
  refine Ret.intro fun R hR => ?_
  go_enter Try.func52, Try.ntmps52
  go_wp2
  all_goals (refine fin hR (veq_bool ?_); unfold longB)
  all_goals (rw [Bool.eq_iff_iff]; simp only [Bool.or_eq_true, Bool.and_eq_true, decide_eq_true_eq, beq_iff_eq, Bool.false_eq_true, false_iff, true_iff]; omega)

set_option maxHeartbeats 400000 in
set_option maxRecDepth 100000 in
theorem get_any (l : List UInt8) (p : Int) (w : World) (hl : l.length ≤ maxLen) :
    Ret Try.prog 51 #[.string (S l), .int .i64 p] w (.tuple #[.int .u64 (vget l p).1, .int .i64 (vget l p).2.1, .int .i64 (vget l p).2.2]) := by
  refine Ret.intro fun R hR => ?_
  unfold maxLen at hl
  by_cases hr : 0 ≤ p ∧ p ≤ l.length
  · obtain ⟨h0, h1⟩ := hr
    obtain ⟨p, rfl⟩ := Int.eq_ofNat_of_zero_le h0
    have hz := GetAt.zero l p (by omega)
    have hd1 : decide ((p : Int) < 0) = false := decide_eq_false (by omega)
    have hd2 : decide (l.length < p) = false := decide_eq_false (by omega)
    go_enter Try.func51, Try.ntmps51
    go_wp2
    go_loop [7, 8] (fun n i => ∃ (k : Nat) (a : Nat), GetAt l p k a ∧ i = .int .i64 k ∧ n = .int .u64 a) (fun _ i => 10 - (intOf i).toNat)
    case atStart => exact ⟨0, 0, hz, rfl, rfl⟩
    case round =>
      obtain ⟨k, a, hg, rfl, rfl⟩ := hrel
      have hk9 : k ≤ 9 := hg.1
      have hpk : p + k ≤ l.length := hg.2.1
      by_cases hlt : p + k < l.length
      · by_cases hb : longB ((S l)[p + k]'(by rw [S_size]; exact hlt)).toNat k = true
        · have hv := Lib.hid (get_long hg hlt hb)
          go_wp2_with (go_at_call 52; refine (long_any _ _ _).use ?_)
          go_ret3
          exact fin hR (by rw [hv.out]; rfl)
        · have hb : longB ((S l)[p + k]'(by rw [S_size]; exact hlt)).toNat k = false := by simpa using hb
          by_cases hc : ((S l)[p + k]'(by rw [S_size]; exact hlt)).toNat < 128
          · have hv := Lib.hid (get_last hg hlt hb hc)
            go_wp2_with (go_at_call 52; refine (long_any _ _ _).use ?_)
            go_ret3
            refine fin hR ?_
            rw [hv.out]
            exact tup3 (veq_int (seven_last a _ k hg.2.2.1 hk9 hc hb)) (veq_int (by simp only [Int.natCast_add]; omega)) rfl
          · have hc : 128 ≤ ((S l)[p + k]'(by rw [S_size]; exact hlt)).toNat := by omega
            have hv := Lib.hid (get_more hg hlt hb hc)
            go_wp2_with (go_at_call 52; refine (long_any _ _ _).use ?_)
            go_round
            case rel =>
              exact ⟨k + 1, _, hv.out, by go_num, veq_int (seven_more a _ k hg.2.2.1 hk9 hc (UInt8.toNat_lt _) hb)⟩
            case measure => simp [intOf]; omega
      · have hv := Lib.hid (get_short hg hlt)
        go_wp2
        go_ret3
        exact fin hR (by rw [hv.out]; rfl)
  · have hv := Lib.hid (vget_out hr)
    go_enter Try.func51, Try.ntmps51
    go_wp2
    all_goals (go_ret3; exact fin hR (by rw [hv.out]; rfl))
theorem vget_eq {l : List UInt8} {p : Int} {n : Nat} {t e : Int} (h : vget l p = (n, t, e)) (w : World) (hl : l.length ≤ maxLen) :
    Ret Try.prog 51 #[.string (S l), .int .i64 p] w (.tuple #[.int .u64 n, .int .i64 t, .int .i64 e]) :=
  (get_any l p w hl).cast (by rw [h])

set_option maxHeartbeats 400000 in
set_option maxRecDepth 100000 in
theorem gettext_any (l : List UInt8) (p most : Int) (w : World) (hl : l.length ≤ maxLen) (hm : most ≤ 9223372036854775807) :
    Ret Try.prog 50 #[.string (S l), .int .i64 p, .int .i64 most] w (.tuple #[.string (S (vtext l p most).1), .int .i64 (vtext l p most).2.1, .int .i64 (vtext l p most).2.2]) := by
  refine Ret.intro fun R hR => ?_
  have hl' := hl
  unfold maxLen at hl'
  obtain ⟨b1, b2, b3, _⟩ := vget_bd l p
  unfold vtext at hR
  obtain ⟨n, t, e, hg⟩ : ∃ n t e, vget l p = (n, t, e) := ⟨_, _, _, rfl⟩
  rw [hg] at b1 b2 b3 hR
  have hc := fun w => vget_eq hg w hl
  clear hg hl
  simp only at b1 b2 b3 hR
  by_cases h0 : e = 0
  · subst h0
    obtain ⟨b4, b5, b6⟩ := b2 rfl
    clear b2 b3
    obtain ⟨t, rfl⟩ := Int.eq_ofNat_of_zero_le (show 0 ≤ t by omega)
    by_cases h1 : most < 0
    · rw [if_neg (by simp), if_pos (.inl h1)] at hR
      go_enter Try.func50, Try.ntmps50
      go_wp2_with (go_at_call 51; refine (hc _).use ?_)
      go_ret3
      exact fin hR rfl
    · have h1' : 0 ≤ most := by omega
      obtain ⟨m, rfl⟩ := Int.eq_ofNat_of_zero_le h1'
      by_cases h2 : m < n
      · rw [if_neg (by simp), if_pos (.inr (by omega))] at hR
        go_enter Try.func50, Try.ntmps50
        go_wp2_with (go_at_call 51; refine (hc _).use ?_)
        go_ret3
        exact fin hR rfl
      · by_cases h3 : l.length - t < n
        · rw [if_neg (by simp), if_neg (by omega), if_pos (by omega)] at hR
          go_enter Try.func50, Try.ntmps50
          go_wp2_with (go_at_call 51; refine (hc _).use ?_)
          go_ret3
          exact fin hR rfl
        · rw [if_neg (by simp), if_neg (by omega), if_neg (by omega)] at hR
          go_enter Try.func50, Try.ntmps50
          go_wp2_with (go_at_call 51; refine (hc _).use ?_)
          go_ret3
          exact fin hR (tup3 (veq_str (by rw [Int.toNat_natCast, Nat.add_sub_cancel_left])) rfl rfl)
  · have h0' : (e == 0) = false := by simpa using h0
    obtain ⟨rfl, rfl⟩ := b3 h0
    rw [if_pos h0] at hR
    clear b2 b3
    go_enter Try.func50, Try.ntmps50
    go_wp2_with (go_at_call 51; refine (hc _).use ?_)
    go_ret3
    exact fin hR rfl
theorem vtext_eq {l : List UInt8} {p most : Int} {x : List UInt8} {t e : Int} (h : vtext l p most = (x, t, e)) (w : World) (hl : l.length ≤ maxLen) (hm : most ≤ 9223372036854775807) :
    Ret Try.prog 50 #[.string (S l), .int .i64 p, .int .i64 most] w (.tuple #[.string (S x), .int .i64 t, .int .i64 e]) :=
  (gettext_any l p most w hl hm).cast (by rw [h])

end Go.Proofs.Ytikcpfoehapndaa
