/-
  The walk of VarintBack.
-/
import Derived.Test.YtdgeljfiobmkcaaFix1
import Derived.Test.YtdgeljfiobmkcaaVarQ
import Derived.Deep.RegionHeld3
set_option linter.unusedVariables false
set_option linter.unusedSimpArgs false
namespace Go.Proofs.Ytdgeljfiobmkcaa.varintBack
open Go.RowKit
attribute [local go_sem] ByteArray.extract_mk ByteArray.mk_append_mk

set_option maxHeartbeats 1000000 in
set_option maxRecDepth 100000 in
theorem walk (n : Nat) (t b : List UInt8) (hn : 0 ≤ (n : Int) ∧ (n : Int) < 18446744073709551616) (ht : t.length ≤ maxLen) (hb : b.length ≤ maxLen) (w : World) :
    RetB Try.prog 5 #[.int .u64 n, .string (S t), .string (S b)] w (.bool true) := by
  refine RetB.intro fun R hR => ?_
  unfold maxLen at ht hb
  have hn' : n < 18446744073709551616 := by omega
  have q1 : ((min (t.length : Int) 1000).toNat) = min t.length 1000 := by omega
  have q2 : ((min (b.length : Int) 1000).toNat) = min b.length 1000 := by omega
  obtain ⟨l, hl⟩ : ∃ l, t.take (min t.length 1000) = l := ⟨_, rfl⟩
  obtain ⟨m, hm⟩ : ∃ l, b.take (min b.length 1000) = l := ⟨_, rfl⟩
  have hll : l.length ≤ 1000 := by rw [← hl, List.length_take]; omega
  have hml : m.length ≤ 1000 := by rw [← hm, List.length_take]; omega
  have hx := vget_put l n m hn'
  have hp' := vput_le n
  have c0 := fun w => put_any n w hn'
  have c1 := fun w => vget_eq hx w (by simp only [List.length_append]; unfold maxLen; omega)
  obtain ⟨k, e, f, hg⟩ : ∃ k e f, vget m 0 = (k, e, f) := ⟨_, _, _, rfl⟩
  obtain ⟨b1, b2, b3, _⟩ := vget_bd m 0
  rw [hg] at b1 b2 b3
  simp only at b1 b2 b3
  have c2 := fun w => vget_eq hg w (by unfold maxLen; omega)
  generalize vput n = x at *
  clear hx
  by_cases h0 : f = 0
  · subst h0
    obtain ⟨g1, g2, g3⟩ := vget_back hg
    have c3 := fun w => put_any k w b1
    rw [g3] at c3
    obtain ⟨e, rfl⟩ := Int.eq_ofNat_of_zero_le (show 0 ≤ e by omega)
    rw [Int.toNat_natCast] at c3
    clear hg g3 b2 b3
    go_enter Try.func5, Try.ntmps5
    go_wp2_with fail
    refine (c0 _).use ?_
    intro w1 hb1
    go_wp2_with fail
    refine (c1 _).use ?_
    go_wp2_with fail
    refine (c2 _).use ?_
    go_wp2_with fail
    have hd1 : decide ((0 : Int) < (e : Int)) = true := decide_eq_true g1
    have hd2 : decide (m.length < e) = false := decide_eq_false (by omega)
    have g4 : 0 < e := by omega
    have g5 : e ≤ m.length := by omega
    go_region_held3 (fun _ => True) (trivial) (first | (go_at_call 18; refine (c3 _).use ?_; intro w2 hb2) | (go_at_call 25; refine (fixed1 _).use ?_; intro w3 hb3))
    go_wp2_with fail
    exact finB hR (below_any (Nat.le_refl _) (below_any (w1 := w1.drew) (Nat.le_refl _) hb1.drew hb2) hb3) rfl
  · have h0' : (f == 0) = false := by simpa using h0
    obtain ⟨rfl, rfl⟩ := b3 h0
    clear hg b2 b3
    go_enter Try.func5, Try.ntmps5
    go_wp2_with fail
    refine (c0 _).use ?_
    intro w1 hb1
    go_wp2_with fail
    refine (c1 _).use ?_
    go_wp2_with fail
    refine (c2 _).use ?_
    go_wp2_with fail
    refine (fixed1 _).use ?_
    intro w2 hb2
    go_wp2_with fail
    exact finB hR (below_any (Nat.le_refl _) hb1 hb2) rfl
end Go.Proofs.Ytdgeljfiobmkcaa.varintBack
