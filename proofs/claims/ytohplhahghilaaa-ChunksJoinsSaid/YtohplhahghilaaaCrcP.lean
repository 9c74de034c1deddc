/-
  Layer 2, plain laws: the sum, as numbers.
-/
import Derived.Laws.BitsAllLaws
import Derived.Test.YtohplhahghilaaaBase
set_option linter.unusedVariables false
set_option linter.unusedSimpArgs false
namespace Go.Proofs.Ytohplhahghilaaa

def bit1 (c : Nat) : Nat := if c % 2 = 1 then (c / 2) ^^^ 3988292384 else c / 2
def bitN : Nat → Nat → Nat
  | 0, c => c
  | n + 1, c => bit1 (bitN n c)
def by8 (c b : Nat) : Nat := bitN 8 (c ^^^ b)
def crcFold (c : Nat) (l : List UInt8) : Nat := l.foldl (fun c b => by8 c b.toNat) c
def crcMore (s : Nat) (l : List UInt8) : Nat := 4294967295 - crcFold (4294967295 - s) l
def crcSum (l : List UInt8) : Nat := crcMore 0 l

theorem xor_bd {a b : Nat} (ha : a < 4294967296) (hb : b < 4294967296) : a ^^^ b < 4294967296 := by
  have : a ^^^ b < 2 ^ 32 := Nat.xor_lt_two_pow (by omega) (by omega)
  omega
theorem bit1_bd {c : Nat} (h : c < 4294967296) : bit1 c < 4294967296 := by
  unfold bit1; split
  · exact xor_bd (by omega) (by decide)
  · omega
theorem bitN_bd {c : Nat} (h : c < 4294967296) : ∀ n, bitN n c < 4294967296
  | 0 => h
  | n + 1 => bit1_bd (bitN_bd h n)
theorem by8_bd {c b : Nat} (h : c < 4294967296) (hb : b < 256) : by8 c b < 4294967296 := bitN_bd (xor_bd h (by omega)) 8
theorem fold_bd : ∀ {l : List UInt8} {c : Nat}, c < 4294967296 → crcFold c l < 4294967296
  | [], _, h => h
  | b :: l, c, h => by
    have := @fold_bd l (by8 c b.toNat) (by8_bd h b.toNat_lt)
    simpa [crcFold] using this
theorem more_bd (s : Nat) (l : List UInt8) : crcMore s l < 4294967296 := by unfold crcMore; omega
theorem sum_bd (l : List UInt8) : crcSum l < 4294967296 := more_bd 0 l
theorem fold_snoc (c : Nat) (l : List UInt8) (b : UInt8) : crcFold c (l ++ [b]) = by8 (crcFold c l) b.toNat := by simp [crcFold]
theorem fold_append (c : Nat) (l m : List UInt8) : crcFold c (l ++ m) = crcFold (crcFold c l) m := by simp [crcFold]
theorem more_more {s : Nat} (hs : s < 4294967296) (l m : List UInt8) : crcMore (crcMore s l) m = crcMore s (l ++ m) := by
  unfold crcMore
  rw [fold_append]
  have := @fold_bd l (4294967295 - s) (by omega)
  rw [show 4294967295 - (4294967295 - crcFold (4294967295 - s) l) = crcFold (4294967295 - s) l by omega]

theorem xor_half (a b : Nat) : (a ^^^ b) / 2 = a / 2 ^^^ b / 2 := by
  apply Nat.eq_of_testBit_eq
  intro i
  simp [Nat.testBit_div_two]
theorem xor_odd (a b : Nat) : (a ^^^ b) % 2 = (a % 2 + b % 2) % 2 := by
  have h := Nat.testBit_xor a b 0
  simp only [Nat.testBit_zero] at h
  rcases Nat.mod_two_eq_zero_or_one a with ha | ha <;> rcases Nat.mod_two_eq_zero_or_one b with hb | hb <;> rcases Nat.mod_two_eq_zero_or_one (a ^^^ b) with hc | hc <;> simp_all
theorem bit1_xor (a b : Nat) : bit1 (a ^^^ b) = bit1 a ^^^ bit1 b := by
  unfold bit1
  rw [xor_odd, xor_half]
  rcases Nat.mod_two_eq_zero_or_one a with ha | ha <;> rcases Nat.mod_two_eq_zero_or_one b with hb | hb
  · simp [ha, hb]
  · simp [ha, hb, Nat.xor_assoc]
  · simp only [ha, hb]
    apply Nat.eq_of_testBit_eq
    intro i
    simp [Nat.testBit_xor]
    cases Nat.testBit (a / 2) i <;> cases Nat.testBit (b / 2) i <;> cases Nat.testBit 3988292384 i <;> simp
  · simp only [ha, hb]
    apply Nat.eq_of_testBit_eq
    intro i
    simp [Nat.testBit_xor]
    cases Nat.testBit (a / 2) i <;> cases Nat.testBit (b / 2) i <;> cases Nat.testBit 3988292384 i <;> simp
theorem bitN_xor (a b : Nat) : ∀ n, bitN n (a ^^^ b) = bitN n a ^^^ bitN n b
  | 0 => rfl
  | n + 1 => by rw [bitN, bitN_xor a b n, bit1_xor]; rfl
theorem bitN_add (m c : Nat) : ∀ n, bitN (n + m) c = bitN n (bitN m c)
  | 0 => by simp [bitN]
  | n + 1 => by rw [show n + 1 + m = (n + m) + 1 by omega, bitN, bitN_add m c n]; rfl
theorem bit1_two (c : Nat) : bit1 (2 * c) = c := by unfold bit1; rw [if_neg (by omega)]; omega
theorem low_high (c : Nat) : c = (2 * (2 * (2 * (2 * (c / 16))))) ^^^ (c % 16) := by
  apply Nat.eq_of_testBit_eq
  intro i
  rw [Nat.testBit_xor, show 2 * (2 * (2 * (2 * (c / 16)))) = 2 ^ 4 * (c / 2 ^ 4) by omega, show c % 16 = c % 2 ^ 4 by rfl, Nat.testBit_two_pow_mul, Nat.testBit_mod_two_pow, Nat.testBit_div_two_pow]
  by_cases h : 4 ≤ i
  · have h' : ¬ i < 4 := by omega
    simp [h, h', show i - 4 + 4 = i by omega]
  · have h' : i < 4 := by omega
    simp [h, h']
theorem four_step (c : Nat) : bitN 4 c = c / 16 ^^^ bitN 4 (c % 16) := by
  have h : bitN 4 c = bitN 4 ((2 * (2 * (2 * (2 * (c / 16))))) ^^^ (c % 16)) := congrArg (bitN 4) (low_high c)
  rw [h, bitN_xor]
  congr 1
  simp [bitN, bit1_two]
theorem by8_nib (c b : Nat) : by8 c b = (let d := (c ^^^ b) / 16 ^^^ bitN 4 ((c ^^^ b) % 16); d / 16 ^^^ bitN 4 (d % 16)) := by
  unfold by8
  rw [show (8 : Nat) = 4 + 4 from rfl, bitN_add, four_step (bitN 4 (c ^^^ b)), four_step (c ^^^ b)]
theorem ones_xor {n : Nat} (h : n < 4294967296) : 4294967295 ^^^ n = 4294967295 - n := by
  have e : (BitVec.allOnes 32 ^^^ BitVec.ofNat 32 n).toNat = (~~~ BitVec.ofNat 32 n).toNat := by rw [BitVec.allOnes_xor]
  rw [BitVec.toNat_xor, BitVec.toNat_not, BitVec.toNat_allOnes, BitVec.toNat_ofNat, Nat.mod_eq_of_lt (by omega)] at e
  exact e
theorem poly_ones : (3988292384 : Nat) &&& 4294967295 = 3988292384 := by decide
theorem bit1_code {n : Nat} (h : n < 4294967296) :
    bits .xor .u32 ((n : Int) / 2) (bits .and .u32 3988292384 (IntKind.u32.wrap (0 - bits .and .u32 (n : Int) 1))) = (bit1 n : Int) := by
  have h1 : bits .and .u32 (n : Int) 1 = ((n % 2 : Nat) : Int) := by
    have := u32_and_nat n 1 h (by decide)
    rw [Nat.and_one_is_mod] at this
    exact this
  rw [h1, IntKind.wrap_u32']
  unfold bit1
  by_cases ho : n % 2 = 1
  · rw [if_pos ho, ho]
    have h2 := u32_and_nat 3988292384 4294967295 (by decide) (by decide)
    rw [poly_ones] at h2
    have h3 := u32_xor_nat (n / 2) 3988292384 (by omega) (by decide)
    have e1 : ((0 - ((1 : Nat) : Int)) % 4294967296) = ((4294967295 : Nat) : Int) := by decide
    rw [e1]
    have e2 : (3988292384 : Int) = ((3988292384 : Nat) : Int) := rfl
    rw [e2, h2, show (n : Int) / 2 = ((n / 2 : Nat) : Int) by omega, h3]
  · rw [if_neg ho, show n % 2 = 0 by omega]
    have h2 := u32_and_nat 3988292384 0 (by decide) (by decide)
    have h3 := u32_xor_nat (n / 2) 0 (by omega) (by decide)
    have e1 : ((0 - ((0 : Nat) : Int)) % 4294967296) = ((0 : Nat) : Int) := by decide
    rw [e1]
    have e2 : (3988292384 : Int) = ((3988292384 : Nat) : Int) := rfl
    rw [e2, h2, show (n : Int) / 2 = ((n / 2 : Nat) : Int) by omega, Nat.and_zero, h3, Nat.xor_zero]
theorem not_code {n : Nat} (h : n < 4294967296) : bits .xor .u32 4294967295 (n : Int) = ((4294967295 - n : Nat) : Int) := by
  have := u32_xor_nat 4294967295 n (by decide) h
  rw [ones_xor h] at this
  exact this

theorem bit1_inj {a b : Nat} (ha : a < 4294967296) (hb : b < 4294967296) (h : bit1 a = bit1 b) : a = b := by
  have top : ∀ x, x < 2147483648 → 2147483648 ≤ x ^^^ 3988292384 := by
    intro x hx
    have : (x ^^^ 3988292384).testBit 31 = true := by
      rw [Nat.testBit_xor, Nat.testBit_lt_two_pow (show x < 2 ^ 31 by omega)]; decide
    exact Nat.ge_two_pow_of_testBit this
  have xinj : ∀ x y : Nat, x ^^^ 3988292384 = y ^^^ 3988292384 → x = y := by
    intro x y e
    have := congrArg (· ^^^ 3988292384) e
    simpa [Nat.xor_assoc] using this
  unfold bit1 at h
  by_cases h1 : a % 2 = 1 <;> by_cases h2 : b % 2 = 1
  · rw [if_pos h1, if_pos h2] at h
    have := xinj _ _ h
    omega
  · rw [if_pos h1, if_neg h2] at h
    have := top (a / 2) (by omega)
    omega
  · rw [if_neg h1, if_pos h2] at h
    have := top (b / 2) (by omega)
    omega
  · rw [if_neg h1, if_neg h2] at h
    omega
theorem bitN_inj {a b : Nat} (ha : a < 4294967296) (hb : b < 4294967296) : ∀ n, bitN n a = bitN n b → a = b
  | 0, h => h
  | n + 1, h => bitN_inj ha hb n (bit1_inj (bitN_bd ha n) (bitN_bd hb n) h)
theorem by8_inj {c d x y : Nat} (hc : c < 4294967296) (hd : d < 4294967296) (hx : x < 256) (hy : y < 256) (h : by8 c x = by8 d y) : c ^^^ x = d ^^^ y :=
  bitN_inj (xor_bd hc (by omega)) (xor_bd hd (by omega)) 8 h
theorem xor_left {a b c : Nat} (h : a ^^^ b = a ^^^ c) : b = c := by
  have := congrArg (a ^^^ ·) h
  simpa [← Nat.xor_assoc] using this
theorem xor_right {a b c : Nat} (h : a ^^^ c = b ^^^ c) : a = b := by
  have := congrArg (· ^^^ c) h
  simpa [Nat.xor_assoc] using this
theorem fold_inj : ∀ {l : List UInt8} {c d : Nat}, c < 4294967296 → d < 4294967296 → crcFold c l = crcFold d l → c = d
  | [], _, _, _, _, h => h
  | b :: l, c, d, hc, hd, h => by
    have h' : crcFold (by8 c b.toNat) l = crcFold (by8 d b.toNat) l := h
    exact xor_right (by8_inj hc hd b.toNat_lt b.toNat_lt (fold_inj (by8_bd hc b.toNat_lt) (by8_bd hd b.toNat_lt) h'))
/-- ONE BYTE: two texts that differ in one byte alone have different sums. -/
theorem sum_apart {s : Nat} (hs : s < 4294967296) (l m : List UInt8) {x y : UInt8} (h : crcMore s (l ++ x :: m) = crcMore s (l ++ y :: m)) : x = y := by
  unfold crcMore at h
  have b1 := @fold_bd (l ++ x :: m) (4294967295 - s) (by omega)
  have b2 := @fold_bd (l ++ y :: m) (4294967295 - s) (by omega)
  have h2 : crcFold (4294967295 - s) (l ++ x :: m) = crcFold (4294967295 - s) (l ++ y :: m) := by omega
  rw [fold_append, fold_append] at h2
  have b3 := @fold_bd l (4294967295 - s) (by omega)
  have h3 : crcFold (by8 (crcFold (4294967295 - s) l) x.toNat) m = crcFold (by8 (crcFold (4294967295 - s) l) y.toNat) m := h2
  have := xor_left (by8_inj b3 b3 x.toNat_lt y.toNat_lt (fold_inj (by8_bd b3 x.toNat_lt) (by8_bd b3 y.toNat_lt) h3))
  exact UInt8.toNat_inj.mp this

/-! The sum's four bytes. -/
def four (n : Nat) : List UInt8 := [UInt8.ofNat (n % 256), UInt8.ofNat (n / 256 % 256), UInt8.ofNat (n / 65536 % 256), UInt8.ofNat (n / 16777216)]
theorem four_len (n : Nat) : (four n).length = 4 := rfl
theorem four_inj {a b : Nat} (ha : a < 4294967296) (hb : b < 4294967296) (h : four a = four b) : a = b := by
  simp only [four, List.cons.injEq, and_true] at h
  obtain ⟨h1, h2, h3, h4⟩ := h
  have e1 := congrArg UInt8.toNat h1
  have e2 := congrArg UInt8.toNat h2
  have e3 := congrArg UInt8.toNat h3
  have e4 := congrArg UInt8.toNat h4
  simp only [UInt8.toNat_ofNat'] at e1 e2 e3 e4
  omega

def crcFrame (l : List UInt8) : List UInt8 := vtxt l ++ four (crcSum l)
/-- what is cut at any place: the text, the place behind it, or what is wrong -/
def crcCut (l : List UInt8) (p most : Int) : List UInt8 × Int × Int :=
  match vtext l p most with
  | (t, to, e) => if e ≠ 0 then ([], 0, e) else if (l.length : Int) - to < 4 then ([], 0, 20) else if (l.drop to.toNat).take 4 ≠ four (crcSum t) then ([], 0, 21) else (t, to + 4, 0)
theorem vtext_bd {l : List UInt8} {p most : Int} {t : List UInt8} {to e : Int} (h : vtext l p most = (t, to, e)) :
    (e = 0 → 0 ≤ p ∧ p < to ∧ 0 ≤ to ∧ to ≤ l.length ∧ p + t.length < to ∧ (t.length : Int) ≤ most) ∧ (e ≠ 0 → t = [] ∧ to = 0) ∧ (e = 0 ∨ e = 1 ∨ e = 2 ∨ e = 10 ∨ e = 11) := by
  obtain ⟨b1, b2, b3, b4⟩ := vget_bd l p
  unfold vtext at h
  by_cases h0 : (vget l p).2.2 ≠ 0
  · rw [if_pos h0] at h
    simp only [Prod.mk.injEq] at h
    obtain ⟨rfl, rfl, rfl⟩ := h
    exact ⟨fun h => absurd h h0, fun _ => ⟨rfl, rfl⟩, by omega⟩
  · rw [if_neg h0] at h
    have h0 : (vget l p).2.2 = 0 := by omega
    obtain ⟨c1, c2, c3⟩ := b2 h0
    by_cases h1 : most < 0 ∨ most < (vget l p).1
    · rw [if_pos h1] at h
      simp only [Prod.mk.injEq] at h
      obtain ⟨rfl, rfl, rfl⟩ := h
      exact ⟨fun h => absurd h (by decide), fun _ => ⟨rfl, rfl⟩, by omega⟩
    · rw [if_neg h1] at h
      by_cases h2 : (l.length : Int) - (vget l p).2.1 < (vget l p).1
      · rw [if_pos h2] at h
        simp only [Prod.mk.injEq] at h
        obtain ⟨rfl, rfl, rfl⟩ := h
        exact ⟨fun h => absurd h (by decide), fun _ => ⟨rfl, rfl⟩, by omega⟩
      · rw [if_neg h2] at h
        simp only [Prod.mk.injEq] at h
        obtain ⟨rfl, rfl, rfl⟩ := h
        have hl : ((l.drop (vget l p).2.1.toNat).take (vget l p).1).length = (vget l p).1 := by rw [List.length_take, List.length_drop]; omega
        rw [hl]
        exact ⟨fun _ => ⟨c1, by omega, by omega, by omega, by omega, by omega⟩, fun h => absurd rfl h, .inl rfl⟩
theorem four_beq (a b : List UInt8) : ((S a).toList == (S b).toList) = decide (a = b) := by rw [S_beq]; by_cases h : a = b <;> simp [h]
end Go.Proofs.Ytohplhahghilaaa
