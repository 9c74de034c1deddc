/-
  Layer 1: texts, and the reference's signs: contracts.
-/
import Derived.Test.YtikcpfoehapndaaRef1
import Derived.Test.YtikcpfoehapndaaVarQ
set_option linter.unusedVariables false
set_option linter.unusedSimpArgs false
namespace Go.Proofs.Ytikcpfoehapndaa
open Go.RowKit
attribute [local go_sem] ByteArray.extract_mk ByteArray.mk_append_mk

theorem rvget_eq {l : List UInt8} {p : Int} {n : Nat} {t e : Int} (h : vget l p = (n, t, e)) (w : World) (hl : l.length ≤ maxLen) :
    Ret Try.prog 39 #[.string (S l), .int .i64 p] w (.tuple #[.int .u64 n, .int .i64 t, .int .i64 e]) :=
  (rget_any l p w hl).cast (by rw [h])

set_option maxHeartbeats 400000 in
set_option maxRecDepth 100000 in
theorem rgettext_any (l : List UInt8) (p most : Int) (w : World) (hl : l.length ≤ maxLen) (hm : most ≤ 9223372036854775807) :
    Ret Try.prog 37 #[.string (S l), .int .i64 p, .int .i64 most] w (.tuple #[.string (S (vtext l p most).1), .int .i64 (vtext l p most).2.1, .int .i64 (vtext l p most).2.2]) := by
  refine Ret.intro fun R hR => ?_
  have hl' := hl
  unfold maxLen at hl'
  obtain ⟨b1, b2, b3, _⟩ := vget_bd l p
  unfold vtext at hR
  obtain ⟨n, t, e, hg⟩ : ∃ n t e, vget l p = (n, t, e) := ⟨_, _, _, rfl⟩
  rw [hg] at b1 b2 b3 hR
  have hc := fun w => rvget_eq hg w hl
  clear hg hl
  simp only at b1 b2 b3 hR
  by_cases h0 : e = 0
  · subst h0
    obtain ⟨b4, b5, b6⟩ := b2 rfl
    clear b2 b3
    obtain ⟨t, rfl⟩ := Int.eq_ofNat_of_zero_le (show 0 ≤ t by omega)
    by_cases h1 : most < 0
    · rw [if_neg (by simp), if_pos (.inl h1)] at hR
      go_enter Try.func37, Try.ntmps37
      go_wp2_with (go_at_call 39; refine (hc _).use ?_)
      go_ret3
      exact fin hR rfl
    · have h1' : 0 ≤ most := by omega
      obtain ⟨m, rfl⟩ := Int.eq_ofNat_of_zero_le h1'
      by_cases h2 : m < n
      · rw [if_neg (by simp), if_pos (.inr (by omega))] at hR
        go_enter Try.func37, Try.ntmps37
        go_wp2_with (go_at_call 39; refine (hc _).use ?_)
        go_ret3
        exact fin hR rfl
      · by_cases h3 : l.length - t < n
        · rw [if_neg (by simp), if_neg (by omega), if_pos (by omega)] at hR
          go_enter Try.func37, Try.ntmps37
          go_wp2_with (go_at_call 39; refine (hc _).use ?_)
          go_ret3
          exact fin hR rfl
        · rw [if_neg (by simp), if_neg (by omega), if_neg (by omega)] at hR
          go_enter Try.func37, Try.ntmps37
          go_wp2_with (go_at_call 39; refine (hc _).use ?_)
          go_ret3
          exact fin hR (tup3 (veq_str (by rw [Int.toNat_natCast, Nat.add_sub_cancel_left])) rfl rfl)
  · have h0' : (e == 0) = false := by simpa using h0
    obtain ⟨rfl, rfl⟩ := b3 h0
    rw [if_pos h0] at hR
    clear b2 b3
    go_enter Try.func37, Try.ntmps37
    go_wp2_with (go_at_call 39; refine (hc _).use ?_)
    go_ret3
    exact fin hR rfl

theorem rvtext_eq {l : List UInt8} {p most : Int} {x : List UInt8} {t e : Int} (h : vtext l p most = (x, t, e)) (w : World) (hl : l.length ≤ maxLen) (hm : most ≤ 9223372036854775807) :
    Ret Try.prog 37 #[.string (S l), .int .i64 p, .int .i64 most] w (.tuple #[.string (S x), .int .i64 t, .int .i64 e]) :=
  (rgettext_any l p most w hl hm).cast (by rw [h])

theorem vput_le (n : Nat) : (vput n).length ≤ 10 := vputF_le 9 n

set_option maxRecDepth 100000 in
theorem puttext_any (l : List UInt8) (w : World) (hl : l.length ≤ 9000000000000000000) : RetB Try.prog 41 #[.string (S l)] w (.string (S (vtxt l))) := by
  refine RetB.intro fun R hR => ?_
  have hp := fun w => put_any l.length w (by omega)
  have q1 : IntKind.u64.wrap (l.length : Int) = l.length := by rw [IntKind.wrap_u64]; omega
  have hle := vput_le l.length
  unfold vtxt at hR
  generalize vput l.length = x at *
  go_enter Try.func41, Try.ntmps41
  go_wp2_with (go_at_call 29; refine (hp _).use ?_; intro w1 hb1)
  exact finB hR hb1 rfl

set_option maxRecDepth 100000 in
theorem rtext_any (l : List UInt8) (w : World) (hl : l.length ≤ 9000000000000000000) : RetB Try.prog 42 #[.string (S l)] w (.string (S (vtxt l))) := by
  refine RetB.intro fun R hR => ?_
  have hp := fun w => rput_eq l.length w (by omega)
  have q1 : IntKind.u64.wrap (l.length : Int) = l.length := by rw [IntKind.wrap_u64]; omega
  have hle := vput_le l.length
  unfold vtxt at hR
  generalize vput l.length = x at *
  go_enter Try.func42, Try.ntmps42
  go_wp2_with (go_at_call 31; refine (hp _).use ?_; intro w1 hb1)
  exact finB hR hb1 rfl
end Go.Proofs.Ytikcpfoehapndaa
