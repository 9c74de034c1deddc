/-
  Layer 1, plain: numbers as few bytes, on lists of bytes. No program in sight.
-/
import Derived.Test.YtkgpckfaghpgmaaStr
import Derived.Lib.BitFns
set_option linter.unusedVariables false
set_option linter.unusedSimpArgs false
namespace Go.Proofs.Ytkgpckfaghpgmaa
open Go.RowKit

/-- A number's bytes, with fuel: 9 serves every number of 64 bits. -/
def vputF : Nat → Nat → List UInt8
  | 0, n => [UInt8.ofNat n]
  | f + 1, n => if n < 128 then [UInt8.ofNat n] else UInt8.ofNat (n % 128 + 128) :: vputF f (n / 128)
def vput (n : Nat) : List UInt8 := vputF 9 n

/-- May the byte of a number of its place not be? -/
def longB (c : Int) (k : Int) : Bool := (k == 9 && decide (1 < c)) || (decide (0 < k) && c == 0)

/-- The number that stands ahead, from its k-th byte on, a being what came: number, bytes, error. -/
def vgetL : List UInt8 → Nat → Nat → Nat × Nat × Nat
  | [], _, _ => (0, 0, 10)
  | c :: l, k, a =>
    if longB c.toNat k then (0, 0, 11)
    else if c.toNat < 128 then (a + c.toNat * 2 ^ (7 * k), k + 1, 0)
    else vgetL l (k + 1) (a + (c.toNat - 128) * 2 ^ (7 * k))

/-- The number at a place: number, the place behind it, error. -/
def vget (l : List UInt8) (at_ : Int) : Nat × Int × Int :=
  if 0 ≤ at_ ∧ at_ ≤ l.length then
    (if (vgetL (l.drop at_.toNat) 0 0).2.2 = 0 then ((vgetL (l.drop at_.toNat) 0 0).1, at_ + (vgetL (l.drop at_.toNat) 0 0).2.1, 0)
     else (0, 0, (vgetL (l.drop at_.toNat) 0 0).2.2))
  else (0, 0, 1)

theorem vget_out {l : List UInt8} {p : Int} (h : ¬ (0 ≤ p ∧ p ≤ l.length)) : vget l p = (0, 0, 1) := by unfold vget; rw [if_neg h]

theorem vgetL_short (l : List UInt8) (p k a : Nat) (h : l.length ≤ p + k) : vgetL (l.drop (p + k)) k a = (0, 0, 10) := by
  rw [List.drop_eq_nil_of_le h]; rfl
theorem vgetL_at (l : List UInt8) (p k a : Nat) (h : p + k < l.length) : vgetL (l.drop (p + k)) k a =
    if longB (l[p + k]'h).toNat k then (0, 0, 11)
    else if (l[p + k]'h).toNat < 128 then (a + (l[p + k]'h).toNat * 2 ^ (7 * k), k + 1, 0)
    else vgetL (l.drop (p + (k + 1))) (k + 1) (a + ((l[p + k]'h).toNat - 128) * 2 ^ (7 * k)) := by
  rw [List.drop_eq_getElem_cons h, vgetL]
  rfl

theorem pow_step {a q r : Nat} (h : a < q) (hr : r ≤ 127 * q) : a + r < q * 2 ^ 7 := by omega

/-- At round k of the loop: what the whole comes to, told by what is left. -/
def GetAt (l : List UInt8) (p k a : Nat) : Prop := k ≤ 9 ∧ p + k ≤ l.length ∧ a < 2 ^ (7 * k) ∧ vgetL (l.drop p) 0 0 = vgetL (l.drop (p + k)) k a

theorem GetAt.zero (l : List UInt8) (p : Nat) (h : p ≤ l.length) : GetAt l p 0 0 := ⟨by omega, by omega, by simp, rfl⟩

theorem vget_of {l : List UInt8} {p k a : Nat} (h : GetAt l p k a) {n c e : Nat} (hv : vgetL (l.drop (p + k)) k a = (n, c, e)) (he : e ≠ 0 → n = 0 ∧ c = 0) :
    vget l (p : Int) = (n, if e = 0 then (p : Int) + c else 0, (e : Int)) := by
  obtain ⟨h1, h2, h3, h4⟩ := h
  rw [hv] at h4
  unfold vget
  rw [if_pos ⟨by omega, by omega⟩, Int.toNat_natCast, h4]
  by_cases h0 : e = 0
  · subst h0; simp
  · obtain ⟨rfl, rfl⟩ := he h0; simp [h0]
theorem get_short {l : List UInt8} {p k a : Nat} (h : GetAt l p k a) (hk : ¬ p + k < l.length) : vget l (p : Int) = (0, 0, 10) := by
  simpa using vget_of h (vgetL_short l p k a (by omega)) (by omega)
theorem get_long {l : List UInt8} {p k a : Nat} (h : GetAt l p k a) (hk : p + k < l.length) (hb : longB (l[p + k]'hk).toNat k = true) : vget l (p : Int) = (0, 0, 11) := by
  have := vget_of h (n := 0) (c := 0) (e := 11) (by rw [vgetL_at l p k a hk, if_pos hb]) (by omega)
  simpa using this
theorem get_last {l : List UInt8} {p k a : Nat} (h : GetAt l p k a) (hk : p + k < l.length) (hb : longB (l[p + k]'hk).toNat k = false) (hc : (l[p + k]'hk).toNat < 128) :
    vget l (p : Int) = (a + (l[p + k]'hk).toNat * 2 ^ (7 * k), (p : Int) + (k + 1 : Nat), 0) := by
  have := vget_of h (n := a + (l[p + k]'hk).toNat * 2 ^ (7 * k)) (c := k + 1) (e := 0) (by rw [vgetL_at l p k a hk, if_neg (by simp [hb]), if_pos hc]) (by omega)
  simpa using this
theorem get_more {l : List UInt8} {p k a : Nat} (h : GetAt l p k a) (hk : p + k < l.length) (hb : longB (l[p + k]'hk).toNat k = false) (hc : 128 ≤ (l[p + k]'hk).toNat) :
    GetAt l p (k + 1) (a + ((l[p + k]'hk).toNat - 128) * 2 ^ (7 * k)) := by
  obtain ⟨h1, h2, h3, h4⟩ := h
  have h9 : k ≠ 9 := by
    rintro rfl
    simp [longB] at hb
    omega
  refine ⟨by omega, by omega, ?_, ?_⟩
  · have hlt : (l[p + k]'hk).toNat - 128 ≤ 127 := by have := (l[p + k]'hk).toNat_lt; omega
    have : ((l[p + k]'hk).toNat - 128) * 2 ^ (7 * k) ≤ 127 * 2 ^ (7 * k) := Nat.mul_le_mul_right _ hlt
    rw [show 7 * (k + 1) = 7 * k + 7 from by omega, Nat.pow_add]
    exact pow_step h3 this
  · have e := vgetL_at l p k a hk
    rw [if_neg (by rw [hb]; decide), if_neg (Nat.not_lt.2 hc)] at e
    exact h4.trans e

theorem longB_nine {c : Nat} {k : Nat} (h : longB (c : Int) (k : Int) = false) : k = 9 → c ≤ 1 := by
  rintro rfl
  simp [longB] at h
  omega

/-- What the round's bits come to: the number grows by its seven. -/
theorem seven_step (a c k : Nat) (ha : a < 2 ^ (7 * k)) (hc : c < 256) (hk : k ≤ 9) (h9 : k = 9 → c ≤ 1) :
    bits .or .u64 (a : Int) (IntKind.u64.wrap (IntKind.u64.wrap (bits .and .u8 (c : Int) 127) * 2 ^ (7 * k))) = ((a + (c % 128) * 2 ^ (7 * k) : Nat) : Int) := by
  have e1 : bits .and .u8 (c : Int) 127 = ((c % 128 : Nat) : Int) := by
    have := u8_and_nat c 127 hc (by omega)
    rw [show ((127 : Nat) : Int) = 127 from rfl] at this
    rw [this, show (127 : Nat) = 2 ^ 7 - 1 from rfl, Nat.and_two_pow_sub_one_eq_mod]
  have e2 : IntKind.u64.wrap ((c % 128 : Nat) : Int) = ((c % 128 : Nat) : Int) := by rw [IntKind.wrap_u64]; omega
  have hlt : (c % 128) * 2 ^ (7 * k) < 18446744073709551616 := by
    by_cases h : k = 9
    · subst h; have := h9 rfl
      have : c % 128 ≤ 1 := by omega
      have := Nat.mul_le_mul_right (2 ^ (7 * 9)) this
      omega
    · have h1 : 2 ^ (7 * k) ≤ 2 ^ 56 := Nat.pow_le_pow_right (by omega) (by omega)
      have := Nat.mul_le_mul (show c % 128 ≤ 127 by omega) h1
      omega
  have e3 : IntKind.u64.wrap (((c % 128 : Nat) : Int) * 2 ^ (7 * k)) = (((c % 128) * 2 ^ (7 * k) : Nat) : Int) := by
    rw [IntKind.wrap_u64, show (((c % 128 : Nat) : Int) * 2 ^ (7 * k)) = (((c % 128) * 2 ^ (7 * k) : Nat) : Int) from by rw [Int.natCast_mul, Int.natCast_pow]; rfl]
    omega
  have ha' : a < 18446744073709551616 := by
    have h1 : 2 ^ (7 * k) ≤ 2 ^ 63 := Nat.pow_le_pow_right (by omega) (by omega)
    omega
  rw [e1, e2, e3, u64_or_nat a _ ha' hlt, Nat.or_comm, Nat.mul_comm (c % 128), ← Nat.two_pow_add_eq_or_of_lt ha, Nat.add_comm]

theorem seven_last (a c k : Nat) (ha : a < 2 ^ (7 * k)) (hk : k ≤ 9) (hc : c < 128) (hb : longB (c : Int) (k : Int) = false) :
    bits .or .u64 (a : Int) (IntKind.u64.wrap (IntKind.u64.wrap (bits .and .u8 (c : Int) 127) * 2 ^ (7 * k))) = ((a + c * 2 ^ (7 * k) : Nat) : Int) := by
  rw [seven_step a c k ha (by omega) hk (longB_nine hb), Nat.mod_eq_of_lt hc]
theorem seven_more (a c k : Nat) (ha : a < 2 ^ (7 * k)) (hk : k ≤ 9) (hc : 128 ≤ c) (hc' : c < 256) (hb : longB (c : Int) (k : Int) = false) :
    bits .or .u64 (a : Int) (IntKind.u64.wrap (IntKind.u64.wrap (bits .and .u8 (c : Int) 127) * 2 ^ (7 * k))) = ((a + (c - 128) * 2 ^ (7 * k) : Nat) : Int) := by
  rw [seven_step a c k ha hc' hk (longB_nine hb), show c % 128 = c - 128 by omega]

/-- A number with a sign as one without, and back. -/
def zig (n : Int) : Int := if 0 ≤ n then 2 * n else 2 * -(n + 1) + 1
def zag (n : Nat) : Int := if n % 2 = 0 then (n / 2 : Nat) else -(n / 2 : Nat) - 1

theorem xor_ones (a : Nat) (ha : a < 18446744073709551616) : a ^^^ 18446744073709551615 = 18446744073709551615 - a := by
  have h := congrArg BitVec.toNat (BitVec.xor_allOnes (x := BitVec.ofNat 64 a))
  rw [BitVec.toNat_xor, BitVec.toNat_not, BitVec.toNat_allOnes, BitVec.toNat_ofNat, Nat.mod_eq_of_lt (by omega)] at h
  simpa using h

theorem zig_bits (n : Int) (h1 : -9223372036854775808 ≤ n) (h2 : n ≤ 9223372036854775807) :
    bits .xor .u64 (IntKind.u64.wrap (wrap64 (n * 2))) (IntKind.u64.wrap (n / 9223372036854775808)) = zig n := by
  have e1 : IntKind.u64.wrap (wrap64 (n * 2)) = (((2 * n) % 18446744073709551616).toNat : Int) := by
    rw [IntKind.wrap_u64]; unfold wrap64; omega
  unfold zig
  by_cases h : 0 ≤ n
  · have e2 : IntKind.u64.wrap (n / 9223372036854775808) = ((0 : Nat) : Int) := by rw [IntKind.wrap_u64]; omega
    rw [e1, e2, u64_xor_nat _ _ (by omega) (by omega), Nat.xor_zero, if_pos h]
    omega
  · have e2 : IntKind.u64.wrap (n / 9223372036854775808) = ((18446744073709551615 : Nat) : Int) := by rw [IntKind.wrap_u64]; omega
    rw [e1, e2, u64_xor_nat _ _ (by omega) (by omega), xor_ones _ (by omega), if_neg h]
    omega

theorem i64_xor_ones (a : Nat) (ha : a < 9223372036854775808) : bits .xor .i64 (a : Int) (-1) = -(a : Int) - 1 := by
  have h : BitVec.ofInt 64 (-1) = BitVec.allOnes 64 := by decide
  show IntKind.i64.wrap ((BitVec.ofInt 64 (a : Int) ^^^ BitVec.ofInt 64 (-1)).toNat : Int) = _
  rw [h, BitVec.xor_allOnes, BitVec.toNat_not, ofInt_u64 a (by omega)]
  have : IntKind.i64.wrap ((2 ^ 64 - 1 - a : Nat) : Int) = wrap64 ((2 ^ 64 - 1 - a : Nat) : Int) := by
    simp only [IntKind.wrap_i64]; unfold wrap64; rfl
  rw [this]
  unfold wrap64
  omega
theorem i64_xor_zero (a : Nat) (ha : a < 9223372036854775808) : bits .xor .i64 (a : Int) 0 = (a : Int) := by
  show IntKind.i64.wrap ((BitVec.ofInt 64 (a : Int) ^^^ BitVec.ofInt 64 0).toNat : Int) = _
  rw [show BitVec.ofInt 64 0 = 0#64 from rfl, BitVec.xor_zero, ofInt_u64 a (by omega)]
  have : IntKind.i64.wrap (a : Int) = wrap64 (a : Int) := by
    simp only [IntKind.wrap_i64]; unfold wrap64; rfl
  rw [this]
  unfold wrap64
  omega

theorem zag_bits (n : Nat) (h2 : n < 18446744073709551616) :
    bits .xor .i64 ((n : Int) / 2) (wrap64 (-wrap64 (bits .and .u64 (n : Int) 1))) = zag n := by
  have e1 : bits .and .u64 (n : Int) 1 = ((n % 2 : Nat) : Int) := by
    have := u64_and_nat n 1 h2 (by omega)
    rw [show ((1 : Nat) : Int) = 1 from rfl] at this
    rw [this, show (1 : Nat) = 2 ^ 1 - 1 from rfl, Nat.and_two_pow_sub_one_eq_mod]
  have e0 : (n : Int) / 2 = ((n / 2 : Nat) : Int) := by omega
  rw [e1, e0]
  unfold zag
  by_cases h : n % 2 = 0
  · have e2 : wrap64 (-wrap64 ((n % 2 : Nat) : Int)) = 0 := by unfold wrap64; omega
    rw [e2, i64_xor_zero _ (by omega), if_pos h]
  · have e2 : wrap64 (-wrap64 ((n % 2 : Nat) : Int)) = -1 := by unfold wrap64; omega
    rw [e2, i64_xor_ones _ (by omega), if_neg h]

/-- The text at a place. -/
def vtext (l : List UInt8) (p most : Int) : List UInt8 × Int × Int :=
  if (vget l p).2.2 ≠ 0 then ([], 0, (vget l p).2.2)
  else if most < 0 ∨ most < (vget l p).1 then ([], 0, 2)
  else if l.length - (vget l p).2.1 < (vget l p).1 then ([], 0, 10)
  else ((l.drop (vget l p).2.1.toNat).take (vget l p).1, (vget l p).2.1 + (vget l p).1, 0)

theorem vgetL_bd : ∀ (l : List UInt8) (k a : Nat), k ≤ 9 → a < 2 ^ (7 * k) → (vgetL l k a).1 < 18446744073709551616 ∧ (vgetL l k a).2.1 ≤ k + l.length ∧ ((vgetL l k a).2.2 = 0 → k < (vgetL l k a).2.1) ∧ ((vgetL l k a).2.2 ≠ 0 → (vgetL l k a).1 = 0 ∧ (vgetL l k a).2.1 = 0) ∧ ((vgetL l k a).2.2 = 0 ∨ (vgetL l k a).2.2 = 10 ∨ (vgetL l k a).2.2 = 11)
  | [], k, a, _, _ => by simp [vgetL]
  | c :: l, k, a, hk, ha => by
    unfold vgetL
    by_cases hb : longB c.toNat k = true
    · rw [if_pos hb]; simp
    · rw [if_neg hb]
      have hb' : longB (c.toNat : Int) (k : Int) = false := by simpa using hb
      have h9 := longB_nine hb'
      have hlt := c.toNat_lt
      have hs : (c.toNat % 128) * 2 ^ (7 * k) < 18446744073709551616 - 2 ^ (7 * k) ∨ k = 9 := by
        by_cases h : k = 9
        · exact .inr h
        · have h1 : 2 ^ (7 * k) ≤ 2 ^ 56 := Nat.pow_le_pow_right (by omega) (by omega)
          have := Nat.mul_le_mul (show c.toNat % 128 ≤ 127 by omega) h1
          omega
      by_cases hc : c.toNat < 128
      · rw [if_pos hc]
        refine ⟨?_, by simp, by simp, by simp, by simp⟩
        show a + c.toNat * 2 ^ (7 * k) < _
        rw [Nat.mod_eq_of_lt hc] at hs
        rcases hs with hs | rfl
        · generalize c.toNat * 2 ^ (7 * k) = q at *
          generalize 2 ^ (7 * k) = r at *
          omega
        · have h8 := h9 rfl
          have e : (2 : Nat) ^ (7 * 9) = 9223372036854775808 := by decide
          rw [e] at ha ⊢
          omega
      · rw [if_neg hc]
        have hne : k ≠ 9 := fun h => by have := h9 h; omega
        have hstep : a + (c.toNat - 128) * 2 ^ (7 * k) < 2 ^ (7 * (k + 1)) := by
          have : (c.toNat - 128) * 2 ^ (7 * k) ≤ 127 * 2 ^ (7 * k) := Nat.mul_le_mul_right _ (by omega)
          rw [show 7 * (k + 1) = 7 * k + 7 from by omega, Nat.pow_add]
          exact pow_step ha this
        have ih := vgetL_bd l (k + 1) _ (by omega) hstep
        obtain ⟨i1, i2, i3, i4, i5⟩ := ih
        refine ⟨i1, by simp; omega, fun h => by have := i3 h; omega, i4, i5⟩

/-- What a number at a place may be. -/
theorem vget_bd (l : List UInt8) (p : Int) : (vget l p).1 < 18446744073709551616 ∧ ((vget l p).2.2 = 0 → 0 ≤ p ∧ p < (vget l p).2.1 ∧ (vget l p).2.1 ≤ l.length) ∧ ((vget l p).2.2 ≠ 0 → (vget l p).1 = 0 ∧ (vget l p).2.1 = 0) ∧
    ((vget l p).2.2 = 0 ∨ (vget l p).2.2 = 1 ∨ (vget l p).2.2 = 10 ∨ (vget l p).2.2 = 11) := by
  by_cases hr : 0 ≤ p ∧ p ≤ l.length
  · obtain ⟨h1, h2, h3, h4, h5⟩ := vgetL_bd (l.drop p.toNat) 0 0 (by omega) (by simp)
    unfold vget
    rw [if_pos hr]
    by_cases h0 : (vgetL (l.drop p.toNat) 0 0).2.2 = 0
    · rw [if_pos h0]
      have := h3 h0
      rw [List.length_drop] at h2
      exact ⟨h1, fun _ => ⟨hr.1, by simp; omega, by simp; omega⟩, by simp, by simp⟩
    · rw [if_neg h0]
      refine ⟨by simp, fun h => ?_, by simp, ?_⟩
      · simp only at h; omega
      · simp only; omega
  · rw [vget_out hr]; simp

theorem bitLenAux_le : ∀ f x, Lib.bitLenAux f x ≤ f
  | 0, x => Nat.le_refl _
  | f + 1, x => by
    unfold Lib.bitLenAux
    split
    · omega
    · have := bitLenAux_le f (x / 2); omega
theorem bitLen_le (n : Nat) : Lib.bitLen n ≤ 64 := bitLenAux_le 64 n
theorem bitLenAux_seven (f x : Nat) (h : 128 ≤ x) : Lib.bitLenAux (f + 7) x = 7 + Lib.bitLenAux f (x / 128) := by
  have e : x / 2 / 2 / 2 / 2 / 2 / 2 / 2 = x / 128 := by omega
  simp only [Lib.bitLenAux, e]
  rw [if_neg (by omega), if_neg (by omega), if_neg (by omega), if_neg (by omega), if_neg (by omega), if_neg (by omega), if_neg (by omega)]
  omega
theorem bitLenAux_small (f x : Nat) (h : x < 128) : Lib.bitLenAux (f + 7) x ≤ 7 := by
  have e : x / 2 / 2 / 2 / 2 / 2 / 2 / 2 = 0 := by omega
  have z : ∀ f, Lib.bitLenAux f 0 = 0 := fun f => by cases f <;> simp [Lib.bitLenAux]
  simp only [Lib.bitLenAux, e, z]
  repeat (split; omega)
  omega
theorem vputF_len : ∀ (f n : Nat), n < 2 ^ (7 * f + 1) → (vputF f n).length = max 1 ((Lib.bitLenAux (7 * f + 1) n + 7 - 1) / 7)
  | 0, n, h => by
    have h : n < 2 := h
    simp only [vputF, Nat.mul_zero, Nat.zero_add, Lib.bitLenAux, List.length_cons, List.length_nil]
    split <;> rfl
  | f + 1, n, h => by
    have e7 : 7 * (f + 1) + 1 = (7 * f + 1) + 7 := by omega
    unfold vputF
    by_cases hn : n < 128
    · rw [if_pos hn, e7]
      have := bitLenAux_small (7 * f + 1) n hn
      simp only [List.length_cons, List.length_nil]
      omega
    · rw [if_neg hn, e7, bitLenAux_seven _ _ (by omega), List.length_cons, vputF_len f (n / 128) (by rw [e7, Nat.pow_add] at h; omega)]
      by_cases h0 : Lib.bitLenAux (7 * f + 1) (n / 128) = 0
      · exfalso
        revert h0
        simp only [Lib.bitLenAux]
        rw [if_neg (by omega)]
        omega
      · omega
/-- How many bytes a number has. -/
theorem vput_len (n : Nat) (h : n < 18446744073709551616) : (vput n).length = max 1 ((Lib.bitLen n + 7 - 1) / 7) := vputF_len 9 n h

/-- A number's sevens, as they come: each with 'more'. -/
def sevF : Nat → Nat → List (Nat × Bool)
  | 0, n => [(n % 256, false)]
  | f + 1, n => if n < 128 then [(n % 256, false)] else (n % 128, true) :: sevF f (n / 128)
theorem sevF_put : ∀ (f n : Nat), n < 2 ^ (7 * f + 1) → (sevF f n).map (fun x => UInt8.ofNat (if x.2 then x.1 + 128 else x.1)) = vputF f n
  | 0, n, h => by
    have h : n < 2 := h
    simp [sevF, vputF, Nat.mod_eq_of_lt (show n < 256 by omega)]
  | f + 1, n, h => by
    have e7 : 7 * (f + 1) + 1 = (7 * f + 1) + 7 := by omega
    unfold sevF vputF
    by_cases hn : n < 128
    · rw [if_pos hn, if_pos hn]; simp [Nat.mod_eq_of_lt (show n < 256 by omega)]
    · rw [if_neg hn, if_neg hn, List.map_cons, sevF_put f (n / 128) (by rw [e7, Nat.pow_add] at h; omega)]
      simp
theorem sevF_len : ∀ (f n : Nat), (sevF f n).length ≤ f + 1
  | 0, n => by simp [sevF]
  | f + 1, n => by
    unfold sevF
    split
    · simp
    · have := sevF_len f (n / 128); simp; omega

theorem and_127 (m : Nat) (h : m < 18446744073709551616) : bits .and .u64 (m : Int) 127 = ((m % 128 : Nat) : Int) := by
  have := u64_and_nat m 127 h (by omega)
  rw [show ((127 : Nat) : Int) = 127 from rfl] at this
  rw [this, show (127 : Nat) = 2 ^ 7 - 1 from rfl, Nat.and_two_pow_sub_one_eq_mod]

/-- The reference's step: the number grows by its seven. -/
theorem rseven (a c k q : Nat) (hq : q = 2 ^ (7 * k)) (ha : a < 2 ^ (7 * k)) (hc : c < 256) (hk : k ≤ 9) (h9 : k = 9 → c ≤ 1) :
    IntKind.u64.wrap ((a : Int) + IntKind.u64.wrap ((c : Int).tmod 128 * (q : Int))) = ((a + (c % 128) * 2 ^ (7 * k) : Nat) : Int) := by
  have hlt : a + (c % 128) * q < 18446744073709551616 := by
    by_cases h : k = 9
    · subst h; have := h9 rfl
      have : c % 128 ≤ 1 := by omega
      have := Nat.mul_le_mul_right q this
      have e : (2 : Nat) ^ (7 * 9) = 9223372036854775808 := by decide
      rw [e] at ha hq
      omega
    · have h1 : 2 ^ (7 * k) ≤ 2 ^ 56 := Nat.pow_le_pow_right (by omega) (by omega)
      have := Nat.mul_le_mul (show c % 128 ≤ 127 by omega) (hq ▸ h1)
      omega
  have e1 : (c : Int).tmod 128 * (q : Int) = ((c % 128 * q : Nat) : Int) := by
    rw [Int.tmod_eq_emod_of_nonneg (by omega), Int.natCast_mul]; rfl
  rw [e1, IntKind.wrap_u64, IntKind.wrap_u64, ← hq]
  generalize c % 128 * q = r at *
  omega
theorem rpow (k : Nat) (hk : k < 9) : IntKind.u64.wrap (((2 ^ (7 * k) : Nat) : Int) * 128) = ((2 ^ (7 * (k + 1)) : Nat) : Int) := by
  have h1 : 2 ^ (7 * k) ≤ 2 ^ 56 := Nat.pow_le_pow_right (by omega) (by omega)
  rw [IntKind.wrap_u64, show 7 * (k + 1) = 7 * k + 7 from by omega, Nat.pow_add]
  omega

/-- The low bits of a number with a sign: none below 0. -/
theorem and_low (x : Int) (m k : Nat) (hm : m = 2 ^ k - 1) (hk : k ≤ 62) : bits .and .i64 x m = (((BitVec.ofInt 64 x).toNat % 2 ^ k : Nat) : Int) := by
  have hp : 2 ^ k ≤ 2 ^ 62 := Nat.pow_le_pow_right (by omega) hk
  have hp0 : 0 < 2 ^ k := Nat.pow_pos (by omega)
  show IntKind.i64.wrap ((BitVec.ofInt 64 x &&& BitVec.ofInt 64 (m : Int)).toNat : Int) = _
  rw [BitVec.toNat_and, ofInt_u64 m (by omega), hm, Nat.and_two_pow_sub_one_eq_mod, IntKind.wrap_i64]
  have := Nat.mod_lt (BitVec.ofInt 64 x).toNat hp0
  generalize (BitVec.ofInt 64 x).toNat % 2 ^ k = y at *
  omega

end Go.Proofs.Ytkgpckfaghpgmaa
