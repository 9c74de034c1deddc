/-
  Layer 1, plain laws: what is put is got, and back. No program in sight.
-/
import Derived.Test.YtkgpckfaghpgmaaVarP
set_option linter.unusedVariables false
set_option linter.unusedSimpArgs false
namespace Go.Proofs.Ytkgpckfaghpgmaa
open Go.RowKit

theorem ofNat_toNat {n : Nat} (h : n < 256) : (UInt8.ofNat n).toNat = n := by
  rw [UInt8.toNat_ofNat']; exact Nat.mod_eq_of_lt h

theorem longB_no {c k : Nat} (h1 : k ≠ 9 ∨ c ≤ 1) (h2 : k = 0 ∨ c ≠ 0) : longB (c : Int) (k : Int) = false := by
  unfold longB
  rw [Bool.or_eq_false_iff]
  constructor
  · rcases h1 with h | h
    · rw [Bool.and_eq_false_iff]; left; simp; omega
    · rw [Bool.and_eq_false_iff]; right; simp; omega
  · rcases h2 with h | h
    · rw [Bool.and_eq_false_iff]; left; simp; omega
    · rw [Bool.and_eq_false_iff]; right; simp; omega

/-- What is put is got, whatever stands behind. -/
theorem vgetL_put : ∀ (f n k a : Nat) (r : List UInt8), k + f = 9 → n < 2 ^ (7 * f + 1) → (k ≠ 0 → n ≠ 0) →
    vgetL (vputF f n ++ r) k a = (a + n * 2 ^ (7 * k), k + (vputF f n).length, 0)
  | 0, n, k, a, r, hk, hn, h0 => by
    have hn : n < 2 := hn
    have e := ofNat_toNat (show n < 256 by omega)
    simp only [vputF, List.cons_append, List.nil_append, vgetL, e, List.length_cons, List.length_nil]
    rw [longB_no (.inr (by omega)) (by omega), if_neg (by simp), if_pos (by omega)]
  | f + 1, n, k, a, r, hk, hn, h0 => by
    unfold vputF
    by_cases hlt : n < 128
    · have e := ofNat_toNat (show n < 256 by omega)
      rw [if_pos hlt]
      simp only [List.cons_append, List.nil_append, vgetL, e, List.length_cons, List.length_nil]
      rw [longB_no (.inl (by omega)) (by omega), if_neg (by simp), if_pos hlt]
    · have e := ofNat_toNat (show n % 128 + 128 < 256 by omega)
      rw [if_neg hlt]
      simp only [List.cons_append, vgetL, e]
      rw [longB_no (.inl (by omega)) (.inr (by omega)), if_neg (by simp), if_neg (by omega),
        vgetL_put f (n / 128) (k + 1) _ r (by omega) (by rw [show 7 * (f + 1) + 1 = (7 * f + 1) + 7 from by omega, Nat.pow_add] at hn; omega) (by omega)]
      simp only [List.length_cons, Prod.mk.injEq, and_true]
      refine ⟨?_, by omega⟩
      rw [show 7 * (k + 1) = 7 * k + 7 from by omega, Nat.pow_add, Nat.add_sub_cancel, show (2 : Nat) ^ 7 = 128 from rfl, Nat.add_assoc]
      congr 1
      rw [Nat.mul_comm (2 ^ (7 * k)) 128, ← Nat.mul_assoc, ← Nat.add_mul]
      congr 1
      omega

theorem vget_put (ahead : List UInt8) (n : Nat) (behind : List UInt8) (hn : n < 18446744073709551616) :
    vget (ahead ++ (vput n ++ behind)) ahead.length = (n, (ahead.length : Int) + (vput n).length, 0) := by
  unfold vget
  rw [if_pos ⟨by omega, by simp; omega⟩, Int.toNat_natCast, List.drop_left]
  unfold vput
  rw [vgetL_put 9 n 0 0 behind rfl hn (by simp)]
  simp

theorem vputF_pos (f n : Nat) : 0 < (vputF f n).length := by
  cases f with
  | zero => simp [vputF]
  | succ f => unfold vputF; split <;> simp
theorem vput_pos (n : Nat) : 0 < (vput n).length := vputF_pos 9 n

/-- A number's bytes, cut short, are none. -/
theorem vgetL_cut : ∀ (f n k a c : Nat), k + f = 9 → n < 2 ^ (7 * f + 1) → c < (vputF f n).length → vgetL ((vputF f n).take c) k a = (0, 0, 10)
  | 0, n, k, a, c, hk, hn, hc => by
    have : c = 0 := by simp [vputF] at hc; omega
    subst this; rfl
  | f + 1, n, k, a, c, hk, hn, hc => by
    unfold vputF at hc ⊢
    by_cases hlt : n < 128
    · rw [if_pos hlt] at hc ⊢
      have : c = 0 := by simp at hc; omega
      subst this; rfl
    · rw [if_neg hlt] at hc ⊢
      cases c with
      | zero => rfl
      | succ c =>
        have e := ofNat_toNat (show n % 128 + 128 < 256 by omega)
        rw [List.take_succ_cons]
        simp only [vgetL, e]
        rw [longB_no (.inl (by omega)) (.inr (by omega)), if_neg (by simp), if_neg (by omega)]
        exact vgetL_cut f (n / 128) (k + 1) _ c (by omega) (by rw [show 7 * (f + 1) + 1 = (7 * f + 1) + 7 from by omega, Nat.pow_add] at hn; omega) (by simpa using hc)
theorem vget_cut (n c : Nat) (hn : n < 18446744073709551616) (hc : c < (vput n).length) : vget ((vput n).take c) 0 = (0, 0, 10) := by
  unfold vget
  rw [if_pos ⟨by omega, by omega⟩]
  simp only [Int.toNat_zero, List.drop_zero]
  unfold vput at hc ⊢
  rw [vgetL_cut 9 n 0 0 c rfl hn hc]
  simp

/-- What is got, put, is the bytes that it was got of. -/
theorem vgetL_back : ∀ (l : List UInt8) (f k a v c : Nat), k + f = 9 → vgetL l k a = (v, c, 0) → ∃ m, v = a + m * 2 ^ (7 * k) ∧ m < 2 ^ (7 * f + 1) ∧ k < c ∧ c ≤ k + l.length ∧ l.take (c - k) = vputF f m ∧ (k ≠ 0 → m ≠ 0)
  | [], f, k, a, v, c, hk, h => by simp [vgetL] at h
  | x :: l, f, k, a, v, c, hk, h => by
    unfold vgetL at h
    by_cases hb : longB x.toNat k = true
    · rw [if_pos hb] at h; simp at h
    · rw [if_neg hb] at h
      have hb' : longB (x.toNat : Int) (k : Int) = false := by simpa using hb
      have h9 := longB_nine hb'
      have h0 : k ≠ 0 → x.toNat ≠ 0 := by
        intro hk0 hx
        rw [hx] at hb'
        simp [longB] at hb'
        omega
      have hofn : UInt8.ofNat x.toNat = x := by simp
      by_cases hx : x.toNat < 128
      · rw [if_pos hx] at h
        simp only [Prod.mk.injEq, and_true] at h
        obtain ⟨rfl, rfl⟩ := h
        refine ⟨x.toNat, rfl, ?_, by omega, by simp, ?_, h0⟩
        · cases f with
          | zero => have := h9 (by omega); simp; omega
          | succ f => rw [show 7 * (f + 1) + 1 = (7 * f + 1) + 7 from by omega, Nat.pow_add]; have := Nat.pow_pos (n := 7 * f + 1) (show 0 < 2 by omega); omega
        · rw [show k + 1 - k = 1 from by omega]
          cases f with
          | zero => simp [vputF]
          | succ f => rw [vputF, if_pos hx]; simp
      · rw [if_neg hx] at h
        have hne : k ≠ 9 := fun e => by have := h9 e; omega
        obtain ⟨f, rfl⟩ : ∃ g, f = g + 1 := ⟨f - 1, by omega⟩
        obtain ⟨m, hv, hm, hc1, hc2, ht, hm0⟩ := vgetL_back l f (k + 1) _ v c (by omega) h
        have hm0 := hm0 (by omega)
        have hxl := x.toNat_lt
        refine ⟨x.toNat - 128 + m * 128, ?_, ?_, by omega, by simp; omega, ?_, by omega⟩
        · rw [hv, show 7 * (k + 1) = 7 * k + 7 from by omega, Nat.pow_add, show (2 : Nat) ^ 7 = 128 from rfl, Nat.add_mul, Nat.add_assoc]
          congr 2
          rw [Nat.mul_comm (2 ^ (7 * k)) 128, Nat.mul_assoc]
        · rw [show 7 * (f + 1) + 1 = (7 * f + 1) + 7 from by omega, Nat.pow_add]
          omega
        · rw [vputF, if_neg (by omega), show c - k = (c - (k + 1)) + 1 from by omega, List.take_succ_cons, ht, show (x.toNat - 128 + m * 128) / 128 = m from by omega]
          congr 1
          rw [show (x.toNat - 128 + m * 128) % 128 + 128 = x.toNat from by omega, hofn]
theorem vget_back {l : List UInt8} {n : Nat} {t : Int} (h : vget l 0 = (n, t, 0)) : 0 < t ∧ t ≤ l.length ∧ vput n = l.take t.toNat := by
  unfold vget at h
  rw [if_pos ⟨by omega, by omega⟩] at h
  simp only [Int.toNat_zero, List.drop_zero] at h
  split at h
  · rename_i h0
    obtain ⟨v, c, e⟩ : ∃ v c, vgetL l 0 0 = (v, c, 0) := ⟨(vgetL l 0 0).1, (vgetL l 0 0).2.1, Prod.ext rfl (Prod.ext rfl h0)⟩
    rw [e] at h
    simp only [Prod.mk.injEq, and_true] at h
    obtain ⟨rfl, rfl⟩ := h
    obtain ⟨m, hv, hm, hc1, hc2, ht, _⟩ := vgetL_back l 9 0 0 v c rfl e
    refine ⟨by omega, by omega, ?_⟩
    rw [show ((0 : Int) + (c : Int)).toNat = c - 0 from by omega, ht, hv]
    simp [vput]
  · rename_i h0
    simp only [Prod.mk.injEq] at h
    omega

/-- Numbers that are less have no more bytes. -/
theorem bitLenAux_mono : ∀ (f a b : Nat), a ≤ b → Lib.bitLenAux f a ≤ Lib.bitLenAux f b
  | 0, a, b, h => Nat.le_refl _
  | f + 1, a, b, h => by
    unfold Lib.bitLenAux
    have := bitLenAux_mono f (a / 2) (b / 2) (by omega)
    split
    · omega
    · rw [if_neg (by omega)]; omega
theorem vput_mono {a b : Nat} (hb : b < 18446744073709551616) (h : a ≤ b) : (vput a).length ≤ (vput b).length := by
  rw [vput_len a (by omega), vput_len b hb]
  have := bitLenAux_mono 64 a b h
  unfold Lib.bitLen
  omega

theorem zag_zig (n : Int) (h1 : -9223372036854775808 ≤ n) (h2 : n ≤ 9223372036854775807) : zag (zig n).toNat = n := by
  unfold zag zig
  split <;> split <;> omega
theorem zig_zag (m : Nat) : zig (zag m) = m := by
  unfold zag zig
  split <;> split <;> omega
theorem zig_bd (n : Int) (h1 : -9223372036854775808 ≤ n) (h2 : n ≤ 9223372036854775807) : 0 ≤ zig n ∧ zig n < 18446744073709551616 := by
  unfold zig; split <;> omega
theorem zag_bd (m : Nat) (h : m < 18446744073709551616) : -9223372036854775808 ≤ zag m ∧ zag m ≤ 9223372036854775807 := by
  unfold zag; split <;> omega
theorem vput_one (n : Nat) : (vput n).length = 1 ↔ n < 128 := by
  unfold vput vputF
  constructor
  · intro h
    by_cases hlt : n < 128
    · exact hlt
    · rw [if_neg hlt] at h
      have h3 := vputF_pos 8 (n / 128)
      have h2 : (vputF 8 (n / 128)).length = 0 := Nat.succ.inj h
      omega
  · intro h; rw [if_pos h]; rfl
/-- A text that is put is got, if it may be so long. -/
def vtxt (l : List UInt8) : List UInt8 := vput l.length ++ l
theorem vtext_put (ahead l behind : List UInt8) (most : Int) (hl : l.length < 18446744073709551616) (hm : (l.length : Int) ≤ most) :
    vtext (ahead ++ (vtxt l ++ behind)) ahead.length most = (l, (ahead.length : Int) + (vtxt l).length, 0) := by
  have h := vget_put ahead l.length (l ++ behind) hl
  have e : vtxt l ++ behind = vput l.length ++ (l ++ behind) := by unfold vtxt; rw [List.append_assoc]
  unfold vtext
  rw [e, h]
  simp only [ne_eq, not_true, if_false]
  rw [if_neg (by omega), if_neg (by simp; omega)]
  have e2 : ((ahead.length : Int) + (vput l.length).length).toNat = (ahead ++ vput l.length).length := by rw [List.length_append]; omega
  rw [e2, ← List.append_assoc, List.drop_left, List.take_left]
  simp only [vtxt, List.length_append, Prod.mk.injEq, and_true, true_and]
  omega
theorem vtext_big (ahead l behind : List UInt8) (most : Int) (hl : l.length < 18446744073709551616) (hm : most < (l.length : Int)) :
    vtext (ahead ++ (vtxt l ++ behind)) ahead.length most = ([], 0, 2) := by
  have h := vget_put ahead l.length (l ++ behind) hl
  have e : vtxt l ++ behind = vput l.length ++ (l ++ behind) := by unfold vtxt; rw [List.append_assoc]
  unfold vtext
  rw [e, h]
  simp only [ne_eq, not_true, if_false]
  rw [if_pos (by omega)]
/-- Cut short, a text is none. -/
theorem vtext_cut (l : List UInt8) (c : Nat) (hl : l.length < 18446744073709551616) (most : Int) (hm : (l.length : Int) ≤ most) (hc : c < (vtxt l).length) :
    vtext ((vtxt l).take c) 0 most = ([], 0, 10) := by
  unfold vtext
  by_cases h : c < (vput l.length).length
  · have e : (vtxt l).take c = (vput l.length).take c := by unfold vtxt; rw [List.take_append_of_le_length (by omega)]
    rw [e, vget_cut _ _ hl h]
    simp
  · have e : (vtxt l).take c = vput l.length ++ l.take (c - (vput l.length).length) := by
      unfold vtxt; rw [List.take_append, List.take_of_length_le (by omega)]
    have hg := vget_put [] l.length (l.take (c - (vput l.length).length)) hl
    simp only [List.nil_append, List.length_nil] at hg
    unfold vtxt at hc
    rw [List.length_append] at hc
    rw [show ((0 : Nat) : Int) = 0 from rfl] at hg
    rw [e, hg]
    simp only [ne_eq, not_true, if_false]
    rw [if_neg (show ¬ (most < 0 ∨ most < ((l.length : Nat) : Int)) by omega), if_pos (by rw [List.length_append, List.length_take]; omega)]

end Go.Proofs.Ytkgpckfaghpgmaa
