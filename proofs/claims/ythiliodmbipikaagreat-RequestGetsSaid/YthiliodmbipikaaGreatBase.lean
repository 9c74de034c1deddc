import Derived.WalkKit
import Derived.WalkLawsBesides
import Derived.WalkSpells
import Derived.Lib.BitFns
import Derived.Laws.Rows
import Derived.Maps.AppendAt
import Derived.Maps.Range
import Derived.Deep.Draws
/-
  Several texts in one: Str, VarP, VarQ, RecP, Mem.
-/
set_option linter.unusedVariables false
set_option linter.unusedSimpArgs false
namespace Go.Proofs.YthiliodmbipikaaGreat
open Go.RowKit

/-- The bytes of a list as one string. -/
abbrev S (l : List UInt8) : ByteArray := ByteArray.mk l.toArray

theorem S_of (s : ByteArray) : s = S s.data.toList := by cases s; rfl
theorem S_size (l : List UInt8) : (S l).size = l.length := by simp [ByteArray.size]
theorem S_append (a b : List UInt8) : S a ++ S b = S (a ++ b) := ByteArray.mk_append_mk a b
theorem S_extract (l : List UInt8) (a b : Nat) : (S l).extract a b = S ((l.drop a).take (b - a)) := ByteArray.extract_mk l a b
theorem S_toList (l : List UInt8) : (S l).toList = l := ByteArray.toList_mk l
theorem S_getElem (l : List UInt8) (i : Nat) (h : i < (S l).size) : (S l)[i]'h = l[i]'(by simpa [S_size] using h) := rfl
theorem S_beq (a b : List UInt8) : ((S a).toList == (S b).toList) = (a == b) := by rw [S_toList, S_toList]
theorem S_ofNums (xs : List UInt8) : strOfNums (xs.map fun x => (x.toNat : Int)) = S xs := by
  apply ByteArray.ext
  apply Array.ext'
  rw [strOfNums_data]
  simp [List.map_map, Function.comp_def]

/-- A call that returns v and leaves the world as it was. -/
def Ret (P : Program) (f : FuncId) (args : Array Value) (w : World) (v : Value) : Prop := Calls P f args w fun e w' => e = .returned v ∧ w = w'
/-- A call that returns v; of what was there nothing has turned. -/
def RetB (P : Program) (f : FuncId) (args : Array Value) (w : World) (v : Value) : Prop := Calls P f args w fun e w' => e = .returned v ∧ Below w.heap.size w w'

section
variable {P : Program} {f : FuncId} {args : Array Value} {w : World} {v v' : Value} {R : Ending → World → Prop}
theorem Ret.intro (h : ∀ R : Ending → World → Prop, Hid (R (.returned v) w) → Calls P f args w R) : Ret P f args w v := h _ ⟨rfl, rfl⟩
theorem RetB.intro (h : ∀ R : Ending → World → Prop, Hid (∀ w', Below w.heap.size w w' → R (.returned v) w') → Calls P f args w R) : RetB P f args w v := h _ fun _ hb => ⟨rfl, hb⟩
theorem Ret.use (h : Ret P f args w v) (k : R (.returned v) w) : Calls P f args w R := h.mono fun e w' ⟨he, hw⟩ => by subst he; subst hw; exact k
theorem RetB.use (h : RetB P f args w v) (k : ∀ w', Below w.heap.size w w' → R (.returned v) w') : Calls P f args w R := h.mono fun e w' ⟨he, hw⟩ => by subst he; exact k _ hw
theorem Ret.toB (h : Ret P f args w v) : RetB P f args w v := h.mono fun e w' ⟨he, hw⟩ => ⟨he, by subst hw; exact Below.refl _ _⟩
theorem Ret.cast (h : Ret P f args w v) (e : v = v') : Ret P f args w v' := e ▸ h
theorem RetB.cast (h : RetB P f args w v) (e : v = v') : RetB P f args w v' := e ▸ h
theorem fin (h : Hid (R (.returned v) w)) (e : v' = v) : R (.returned v') w := e ▸ h
theorem finB {w' : World} (h : Hid (∀ w', Below w.heap.size w w' → R (.returned v) w')) (hb : Below w.heap.size w w') (e : v' = v) : R (.returned v') w' := e ▸ h _ hb
end
theorem tup2 {a b a' b' : Value} (h1 : a = a') (h2 : b = b') : Value.tuple #[a, b] = Value.tuple #[a', b'] := by rw [h1, h2]
theorem tup3 {a b c a' b' c' : Value} (h1 : a = a') (h2 : b = b') (h3 : c = c') : Value.tuple #[a, b, c] = Value.tuple #[a', b', c'] := by rw [h1, h2, h3]
theorem veq_int {k : IntKind} {a b : Int} (h : a = b) : Value.int k a = Value.int k b := by rw [h]
theorem veq_bool {a b : Bool} (h : a = b) : Value.bool a = Value.bool b := by rw [h]
theorem veq_str {a b : List UInt8} (h : a = b) : Value.string (S a) = Value.string (S b) := by rw [h]

/-- The bytes of a row of one cell as a string. -/
theorem conv1 {P : Program} {src e dst : TypeId} (hs : P.underlying src = some (.slice e)) (he : P.underlying e = some (.int .u8)) (hd : P.underlying dst = some .string) (w : World) (g c : Nat) (x : Int)
    (h : w.cell? ⟨g, 0, none⟩ = some (.int .u8 x)) : (convert src dst (.slice (some ⟨g, 0, none⟩) 1 c)).run P w = .ok (.string (strOfNums [x])) w :=
  run_convert_bytes_arg w src e hs he g 0 1 c [x] rfl (fun i hi => by
    obtain rfl : i = 0 := by omega
    exact h) dst hd
theorem strOfNums_one (x : Nat) : strOfNums [(x : Int)] = S [UInt8.ofNat x] := rfl

/-- A slice of integers, as it lies in memory. -/
def IntsIn (w : World) (k : IntKind) (v : Value) : Prop := (∃ a cap, v = .slice a 0 cap) ∨ ∃ (b off cap : Nat) (zs : List Int), v = .slice (some ⟨b, off, none⟩) zs.length cap ∧ b < w.heap.size ∧ zs.length ≤ maxLen ∧
  (∀ n ∈ zs, (Lit.int k n).wf = true) ∧ ∀ i, (h : i < zs.length) → w.cell? ⟨b, off + i, none⟩ = some (.int k zs[i])

theorem cell_lt {w : World} {b off : Nat} {v : Value} (h : w.cell? ⟨b, off, none⟩ = some v) : b < w.heap.size := by
  unfold World.cell? at h
  rcases Nat.lt_or_ge b w.heap.size with hlt | hge
  · exact hlt
  · simp [Array.getElem?_eq_none hge] at h

end Go.Proofs.YthiliodmbipikaaGreat

set_option linter.unusedVariables false
set_option linter.unusedSimpArgs false
namespace Go.Proofs.YthiliodmbipikaaGreat
open Go.RowKit

/-- A number's bytes, with fuel: 9 serves every number of 64 bits. -/
def vputF : Nat → Nat → List UInt8
  | 0, n => [UInt8.ofNat n]
  | f + 1, n => if n < 128 then [UInt8.ofNat n] else UInt8.ofNat (n % 128 + 128) :: vputF f (n / 128)
def vput (n : Nat) : List UInt8 := vputF 9 n

/-- May the byte of a number of its place not be? -/
def longB (c : Int) (k : Int) : Bool := (k == 9 && decide (1 < c)) || (decide (0 < k) && c == 0)

/-- The number that stands ahead, from its k-th byte on, a being what came: number, bytes, error. -/
def vgetL : List UInt8 → Nat → Nat → Nat × Nat × Nat
  | [], _, _ => (0, 0, 10)
  | c :: l, k, a =>
    if longB c.toNat k then (0, 0, 11)
    else if c.toNat < 128 then (a + c.toNat * 2 ^ (7 * k), k + 1, 0)
    else vgetL l (k + 1) (a + (c.toNat - 128) * 2 ^ (7 * k))

/-- The number at a place: number, the place behind it, error. -/
def vget (l : List UInt8) (at_ : Int) : Nat × Int × Int :=
  if 0 ≤ at_ ∧ at_ ≤ l.length then
    (if (vgetL (l.drop at_.toNat) 0 0).2.2 = 0 then ((vgetL (l.drop at_.toNat) 0 0).1, at_ + (vgetL (l.drop at_.toNat) 0 0).2.1, 0)
     else (0, 0, (vgetL (l.drop at_.toNat) 0 0).2.2))
  else (0, 0, 1)

theorem vget_out {l : List UInt8} {p : Int} (h : ¬ (0 ≤ p ∧ p ≤ l.length)) : vget l p = (0, 0, 1) := by unfold vget; rw [if_neg h]

theorem vgetL_short (l : List UInt8) (p k a : Nat) (h : l.length ≤ p + k) : vgetL (l.drop (p + k)) k a = (0, 0, 10) := by
  rw [List.drop_eq_nil_of_le h]; rfl
theorem vgetL_at (l : List UInt8) (p k a : Nat) (h : p + k < l.length) : vgetL (l.drop (p + k)) k a =
    if longB (l[p + k]'h).toNat k then (0, 0, 11)
    else if (l[p + k]'h).toNat < 128 then (a + (l[p + k]'h).toNat * 2 ^ (7 * k), k + 1, 0)
    else vgetL (l.drop (p + (k + 1))) (k + 1) (a + ((l[p + k]'h).toNat - 128) * 2 ^ (7 * k)) := by
  rw [List.drop_eq_getElem_cons h, vgetL]
  rfl

theorem pow_step {a q r : Nat} (h : a < q) (hr : r ≤ 127 * q) : a + r < q * 2 ^ 7 := by omega

/-- At round k of the loop: what the whole comes to, told by what is left. -/
def GetAt (l : List UInt8) (p k a : Nat) : Prop := k ≤ 9 ∧ p + k ≤ l.length ∧ a < 2 ^ (7 * k) ∧ vgetL (l.drop p) 0 0 = vgetL (l.drop (p + k)) k a

theorem GetAt.zero (l : List UInt8) (p : Nat) (h : p ≤ l.length) : GetAt l p 0 0 := ⟨by omega, by omega, by simp, rfl⟩

theorem vget_of {l : List UInt8} {p k a : Nat} (h : GetAt l p k a) {n c e : Nat} (hv : vgetL (l.drop (p + k)) k a = (n, c, e)) (he : e ≠ 0 → n = 0 ∧ c = 0) :
    vget l (p : Int) = (n, if e = 0 then (p : Int) + c else 0, (e : Int)) := by
  obtain ⟨h1, h2, h3, h4⟩ := h
  rw [hv] at h4
  unfold vget
  rw [if_pos ⟨by omega, by omega⟩, Int.toNat_natCast, h4]
  by_cases h0 : e = 0
  · subst h0; simp
  · obtain ⟨rfl, rfl⟩ := he h0; simp [h0]
theorem get_short {l : List UInt8} {p k a : Nat} (h : GetAt l p k a) (hk : ¬ p + k < l.length) : vget l (p : Int) = (0, 0, 10) := by
  simpa using vget_of h (vgetL_short l p k a (by omega)) (by omega)
theorem get_long {l : List UInt8} {p k a : Nat} (h : GetAt l p k a) (hk : p + k < l.length) (hb : longB (l[p + k]'hk).toNat k = true) : vget l (p : Int) = (0, 0, 11) := by
  have := vget_of h (n := 0) (c := 0) (e := 11) (by rw [vgetL_at l p k a hk, if_pos hb]) (by omega)
  simpa using this
theorem get_last {l : List UInt8} {p k a : Nat} (h : GetAt l p k a) (hk : p + k < l.length) (hb : longB (l[p + k]'hk).toNat k = false) (hc : (l[p + k]'hk).toNat < 128) :
    vget l (p : Int) = (a + (l[p + k]'hk).toNat * 2 ^ (7 * k), (p : Int) + (k + 1 : Nat), 0) := by
  have := vget_of h (n := a + (l[p + k]'hk).toNat * 2 ^ (7 * k)) (c := k + 1) (e := 0) (by rw [vgetL_at l p k a hk, if_neg (by simp [hb]), if_pos hc]) (by omega)
  simpa using this
theorem get_more {l : List UInt8} {p k a : Nat} (h : GetAt l p k a) (hk : p + k < l.length) (hb : longB (l[p + k]'hk).toNat k = false) (hc : 128 ≤ (l[p + k]'hk).toNat) :
    GetAt l p (k + 1) (a + ((l[p + k]'hk).toNat - 128) * 2 ^ (7 * k)) := by
  obtain ⟨h1, h2, h3, h4⟩ := h
  have h9 : k ≠ 9 := by
    rintro rfl
    simp [longB] at hb
    omega
  refine ⟨by omega, by omega, ?_, ?_⟩
  · have hlt : (l[p + k]'hk).toNat - 128 ≤ 127 := by have := (l[p + k]'hk).toNat_lt; omega
    have : ((l[p + k]'hk).toNat - 128) * 2 ^ (7 * k) ≤ 127 * 2 ^ (7 * k) := Nat.mul_le_mul_right _ hlt
    rw [show 7 * (k + 1) = 7 * k + 7 from by omega, Nat.pow_add]
    exact pow_step h3 this
  · have e := vgetL_at l p k a hk
    rw [if_neg (by rw [hb]; decide), if_neg (Nat.not_lt.2 hc)] at e
    exact h4.trans e

theorem longB_nine {c : Nat} {k : Nat} (h : longB (c : Int) (k : Int) = false) : k = 9 → c ≤ 1 := by
  rintro rfl
  simp [longB] at h
  omega

/-- What the round's bits come to: the number grows by its seven. -/
theorem seven_step (a c k : Nat) (ha : a < 2 ^ (7 * k)) (hc : c < 256) (hk : k ≤ 9) (h9 : k = 9 → c ≤ 1) :
    bits .or .u64 (a : Int) (IntKind.u64.wrap (IntKind.u64.wrap (bits .and .u8 (c : Int) 127) * 2 ^ (7 * k))) = ((a + (c % 128) * 2 ^ (7 * k) : Nat) : Int) := by
  have e1 : bits .and .u8 (c : Int) 127 = ((c % 128 : Nat) : Int) := by
    have := u8_and_nat c 127 hc (by omega)
    rw [show ((127 : Nat) : Int) = 127 from rfl] at this
    rw [this, show (127 : Nat) = 2 ^ 7 - 1 from rfl, Nat.and_two_pow_sub_one_eq_mod]
  have e2 : IntKind.u64.wrap ((c % 128 : Nat) : Int) = ((c % 128 : Nat) : Int) := by rw [IntKind.wrap_u64]; omega
  have hlt : (c % 128) * 2 ^ (7 * k) < 18446744073709551616 := by
    by_cases h : k = 9
    · subst h; have := h9 rfl
      have : c % 128 ≤ 1 := by omega
      have := Nat.mul_le_mul_right (2 ^ (7 * 9)) this
      omega
    · have h1 : 2 ^ (7 * k) ≤ 2 ^ 56 := Nat.pow_le_pow_right (by omega) (by omega)
      have := Nat.mul_le_mul (show c % 128 ≤ 127 by omega) h1
      omega
  have e3 : IntKind.u64.wrap (((c % 128 : Nat) : Int) * 2 ^ (7 * k)) = (((c % 128) * 2 ^ (7 * k) : Nat) : Int) := by
    rw [IntKind.wrap_u64, show (((c % 128 : Nat) : Int) * 2 ^ (7 * k)) = (((c % 128) * 2 ^ (7 * k) : Nat) : Int) from by rw [Int.natCast_mul, Int.natCast_pow]; rfl]
    omega
  have ha' : a < 18446744073709551616 := by
    have h1 : 2 ^ (7 * k) ≤ 2 ^ 63 := Nat.pow_le_pow_right (by omega) (by omega)
    omega
  rw [e1, e2, e3, u64_or_nat a _ ha' hlt, Nat.or_comm, Nat.mul_comm (c % 128), ← Nat.two_pow_add_eq_or_of_lt ha, Nat.add_comm]

theorem seven_last (a c k : Nat) (ha : a < 2 ^ (7 * k)) (hk : k ≤ 9) (hc : c < 128) (hb : longB (c : Int) (k : Int) = false) :
    bits .or .u64 (a : Int) (IntKind.u64.wrap (IntKind.u64.wrap (bits .and .u8 (c : Int) 127) * 2 ^ (7 * k))) = ((a + c * 2 ^ (7 * k) : Nat) : Int) := by
  rw [seven_step a c k ha (by omega) hk (longB_nine hb), Nat.mod_eq_of_lt hc]
theorem seven_more (a c k : Nat) (ha : a < 2 ^ (7 * k)) (hk : k ≤ 9) (hc : 128 ≤ c) (hc' : c < 256) (hb : longB (c : Int) (k : Int) = false) :
    bits .or .u64 (a : Int) (IntKind.u64.wrap (IntKind.u64.wrap (bits .and .u8 (c : Int) 127) * 2 ^ (7 * k))) = ((a + (c - 128) * 2 ^ (7 * k) : Nat) : Int) := by
  rw [seven_step a c k ha hc' hk (longB_nine hb), show c % 128 = c - 128 by omega]

/-- A number with a sign as one without, and back. -/
def zig (n : Int) : Int := if 0 ≤ n then 2 * n else 2 * -(n + 1) + 1
def zag (n : Nat) : Int := if n % 2 = 0 then (n / 2 : Nat) else -(n / 2 : Nat) - 1

theorem xor_ones (a : Nat) (ha : a < 18446744073709551616) : a ^^^ 18446744073709551615 = 18446744073709551615 - a := by
  have h := congrArg BitVec.toNat (BitVec.xor_allOnes (x := BitVec.ofNat 64 a))
  rw [BitVec.toNat_xor, BitVec.toNat_not, BitVec.toNat_allOnes, BitVec.toNat_ofNat, Nat.mod_eq_of_lt (by omega)] at h
  simpa using h

theorem zig_bits (n : Int) (h1 : -9223372036854775808 ≤ n) (h2 : n ≤ 9223372036854775807) :
    bits .xor .u64 (IntKind.u64.wrap (wrap64 (n * 2))) (IntKind.u64.wrap (n / 9223372036854775808)) = zig n := by
  have e1 : IntKind.u64.wrap (wrap64 (n * 2)) = (((2 * n) % 18446744073709551616).toNat : Int) := by
    rw [IntKind.wrap_u64]; unfold wrap64; omega
  unfold zig
  by_cases h : 0 ≤ n
  · have e2 : IntKind.u64.wrap (n / 9223372036854775808) = ((0 : Nat) : Int) := by rw [IntKind.wrap_u64]; omega
    rw [e1, e2, u64_xor_nat _ _ (by omega) (by omega), Nat.xor_zero, if_pos h]
    omega
  · have e2 : IntKind.u64.wrap (n / 9223372036854775808) = ((18446744073709551615 : Nat) : Int) := by rw [IntKind.wrap_u64]; omega
    rw [e1, e2, u64_xor_nat _ _ (by omega) (by omega), xor_ones _ (by omega), if_neg h]
    omega

theorem i64_xor_ones (a : Nat) (ha : a < 9223372036854775808) : bits .xor .i64 (a : Int) (-1) = -(a : Int) - 1 := by
  have h : BitVec.ofInt 64 (-1) = BitVec.allOnes 64 := by decide
  show IntKind.i64.wrap ((BitVec.ofInt 64 (a : Int) ^^^ BitVec.ofInt 64 (-1)).toNat : Int) = _
  rw [h, BitVec.xor_allOnes, BitVec.toNat_not, ofInt_u64 a (by omega)]
  have : IntKind.i64.wrap ((2 ^ 64 - 1 - a : Nat) : Int) = wrap64 ((2 ^ 64 - 1 - a : Nat) : Int) := by
    simp only [IntKind.wrap_i64]; unfold wrap64; rfl
  rw [this]
  unfold wrap64
  omega
theorem i64_xor_zero (a : Nat) (ha : a < 9223372036854775808) : bits .xor .i64 (a : Int) 0 = (a : Int) := by
  show IntKind.i64.wrap ((BitVec.ofInt 64 (a : Int) ^^^ BitVec.ofInt 64 0).toNat : Int) = _
  rw [show BitVec.ofInt 64 0 = 0#64 from rfl, BitVec.xor_zero, ofInt_u64 a (by omega)]
  have : IntKind.i64.wrap (a : Int) = wrap64 (a : Int) := by
    simp only [IntKind.wrap_i64]; unfold wrap64; rfl
  rw [this]
  unfold wrap64
  omega

theorem zag_bits (n : Nat) (h2 : n < 18446744073709551616) :
    bits .xor .i64 ((n : Int) / 2) (wrap64 (-wrap64 (bits .and .u64 (n : Int) 1))) = zag n := by
  have e1 : bits .and .u64 (n : Int) 1 = ((n % 2 : Nat) : Int) := by
    have := u64_and_nat n 1 h2 (by omega)
    rw [show ((1 : Nat) : Int) = 1 from rfl] at this
    rw [this, show (1 : Nat) = 2 ^ 1 - 1 from rfl, Nat.and_two_pow_sub_one_eq_mod]
  have e0 : (n : Int) / 2 = ((n / 2 : Nat) : Int) := by omega
  rw [e1, e0]
  unfold zag
  by_cases h : n % 2 = 0
  · have e2 : wrap64 (-wrap64 ((n % 2 : Nat) : Int)) = 0 := by unfold wrap64; omega
    rw [e2, i64_xor_zero _ (by omega), if_pos h]
  · have e2 : wrap64 (-wrap64 ((n % 2 : Nat) : Int)) = -1 := by unfold wrap64; omega
    rw [e2, i64_xor_ones _ (by omega), if_neg h]

/-- The text at a place. -/
def vtext (l : List UInt8) (p most : Int) : List UInt8 × Int × Int :=
  if (vget l p).2.2 ≠ 0 then ([], 0, (vget l p).2.2)
  else if most < 0 ∨ most < (vget l p).1 then ([], 0, 2)
  else if l.length - (vget l p).2.1 < (vget l p).1 then ([], 0, 10)
  else ((l.drop (vget l p).2.1.toNat).take (vget l p).1, (vget l p).2.1 + (vget l p).1, 0)

theorem vgetL_bd : ∀ (l : List UInt8) (k a : Nat), k ≤ 9 → a < 2 ^ (7 * k) → (vgetL l k a).1 < 18446744073709551616 ∧ (vgetL l k a).2.1 ≤ k + l.length ∧ ((vgetL l k a).2.2 = 0 → k < (vgetL l k a).2.1) ∧ ((vgetL l k a).2.2 ≠ 0 → (vgetL l k a).1 = 0 ∧ (vgetL l k a).2.1 = 0) ∧ ((vgetL l k a).2.2 = 0 ∨ (vgetL l k a).2.2 = 10 ∨ (vgetL l k a).2.2 = 11)
  | [], k, a, _, _ => by simp [vgetL]
  | c :: l, k, a, hk, ha => by
    unfold vgetL
    by_cases hb : longB c.toNat k = true
    · rw [if_pos hb]; simp
    · rw [if_neg hb]
      have hb' : longB (c.toNat : Int) (k : Int) = false := by simpa using hb
      have h9 := longB_nine hb'
      have hlt := c.toNat_lt
      have hs : (c.toNat % 128) * 2 ^ (7 * k) < 18446744073709551616 - 2 ^ (7 * k) ∨ k = 9 := by
        by_cases h : k = 9
        · exact .inr h
        · have h1 : 2 ^ (7 * k) ≤ 2 ^ 56 := Nat.pow_le_pow_right (by omega) (by omega)
          have := Nat.mul_le_mul (show c.toNat % 128 ≤ 127 by omega) h1
          omega
      by_cases hc : c.toNat < 128
      · rw [if_pos hc]
        refine ⟨?_, by simp, by simp, by simp, by simp⟩
        show a + c.toNat * 2 ^ (7 * k) < _
        rw [Nat.mod_eq_of_lt hc] at hs
        rcases hs with hs | rfl
        · generalize c.toNat * 2 ^ (7 * k) = q at *
          generalize 2 ^ (7 * k) = r at *
          omega
        · have h8 := h9 rfl
          have e : (2 : Nat) ^ (7 * 9) = 9223372036854775808 := by decide
          rw [e] at ha ⊢
          omega
      · rw [if_neg hc]
        have hne : k ≠ 9 := fun h => by have := h9 h; omega
        have hstep : a + (c.toNat - 128) * 2 ^ (7 * k) < 2 ^ (7 * (k + 1)) := by
          have : (c.toNat - 128) * 2 ^ (7 * k) ≤ 127 * 2 ^ (7 * k) := Nat.mul_le_mul_right _ (by omega)
          rw [show 7 * (k + 1) = 7 * k + 7 from by omega, Nat.pow_add]
          exact pow_step ha this
        have ih := vgetL_bd l (k + 1) _ (by omega) hstep
        obtain ⟨i1, i2, i3, i4, i5⟩ := ih
        refine ⟨i1, by simp; omega, fun h => by have := i3 h; omega, i4, i5⟩

/-- What a number at a place may be. -/
theorem vget_bd (l : List UInt8) (p : Int) : (vget l p).1 < 18446744073709551616 ∧ ((vget l p).2.2 = 0 → 0 ≤ p ∧ p < (vget l p).2.1 ∧ (vget l p).2.1 ≤ l.length) ∧ ((vget l p).2.2 ≠ 0 → (vget l p).1 = 0 ∧ (vget l p).2.1 = 0) ∧
    ((vget l p).2.2 = 0 ∨ (vget l p).2.2 = 1 ∨ (vget l p).2.2 = 10 ∨ (vget l p).2.2 = 11) := by
  by_cases hr : 0 ≤ p ∧ p ≤ l.length
  · obtain ⟨h1, h2, h3, h4, h5⟩ := vgetL_bd (l.drop p.toNat) 0 0 (by omega) (by simp)
    unfold vget
    rw [if_pos hr]
    by_cases h0 : (vgetL (l.drop p.toNat) 0 0).2.2 = 0
    · rw [if_pos h0]
      have := h3 h0
      rw [List.length_drop] at h2
      exact ⟨h1, fun _ => ⟨hr.1, by simp; omega, by simp; omega⟩, by simp, by simp⟩
    · rw [if_neg h0]
      refine ⟨by simp, fun h => ?_, by simp, ?_⟩
      · simp only at h; omega
      · simp only; omega
  · rw [vget_out hr]; simp

theorem bitLenAux_le : ∀ f x, Lib.bitLenAux f x ≤ f
  | 0, x => Nat.le_refl _
  | f + 1, x => by
    unfold Lib.bitLenAux
    split
    · omega
    · have := bitLenAux_le f (x / 2); omega
theorem bitLen_le (n : Nat) : Lib.bitLen n ≤ 64 := bitLenAux_le 64 n
theorem bitLenAux_seven (f x : Nat) (h : 128 ≤ x) : Lib.bitLenAux (f + 7) x = 7 + Lib.bitLenAux f (x / 128) := by
  have e : x / 2 / 2 / 2 / 2 / 2 / 2 / 2 = x / 128 := by omega
  simp only [Lib.bitLenAux, e]
  rw [if_neg (by omega), if_neg (by omega), if_neg (by omega), if_neg (by omega), if_neg (by omega), if_neg (by omega), if_neg (by omega)]
  omega
theorem bitLenAux_small (f x : Nat) (h : x < 128) : Lib.bitLenAux (f + 7) x ≤ 7 := by
  have e : x / 2 / 2 / 2 / 2 / 2 / 2 / 2 = 0 := by omega
  have z : ∀ f, Lib.bitLenAux f 0 = 0 := fun f => by cases f <;> simp [Lib.bitLenAux]
  simp only [Lib.bitLenAux, e, z]
  repeat (split; omega)
  omega
theorem vputF_len : ∀ (f n : Nat), n < 2 ^ (7 * f + 1) → (vputF f n).length = max 1 ((Lib.bitLenAux (7 * f + 1) n + 7 - 1) / 7)
  | 0, n, h => by
    have h : n < 2 := h
    simp only [vputF, Nat.mul_zero, Nat.zero_add, Lib.bitLenAux, List.length_cons, List.length_nil]
    split <;> rfl
  | f + 1, n, h => by
    have e7 : 7 * (f + 1) + 1 = (7 * f + 1) + 7 := by omega
    unfold vputF
    by_cases hn : n < 128
    · rw [if_pos hn, e7]
      have := bitLenAux_small (7 * f + 1) n hn
      simp only [List.length_cons, List.length_nil]
      omega
    · rw [if_neg hn, e7, bitLenAux_seven _ _ (by omega), List.length_cons, vputF_len f (n / 128) (by rw [e7, Nat.pow_add] at h; omega)]
      by_cases h0 : Lib.bitLenAux (7 * f + 1) (n / 128) = 0
      · exfalso
        revert h0
        simp only [Lib.bitLenAux]
        rw [if_neg (by omega)]
        omega
      · omega
/-- How many bytes a number has. -/
theorem vput_len (n : Nat) (h : n < 18446744073709551616) : (vput n).length = max 1 ((Lib.bitLen n + 7 - 1) / 7) := vputF_len 9 n h

/-- A number's sevens, as they come: each with 'more'. -/
def sevF : Nat → Nat → List (Nat × Bool)
  | 0, n => [(n % 256, false)]
  | f + 1, n => if n < 128 then [(n % 256, false)] else (n % 128, true) :: sevF f (n / 128)
theorem sevF_put : ∀ (f n : Nat), n < 2 ^ (7 * f + 1) → (sevF f n).map (fun x => UInt8.ofNat (if x.2 then x.1 + 128 else x.1)) = vputF f n
  | 0, n, h => by
    have h : n < 2 := h
    simp [sevF, vputF, Nat.mod_eq_of_lt (show n < 256 by omega)]
  | f + 1, n, h => by
    have e7 : 7 * (f + 1) + 1 = (7 * f + 1) + 7 := by omega
    unfold sevF vputF
    by_cases hn : n < 128
    · rw [if_pos hn, if_pos hn]; simp [Nat.mod_eq_of_lt (show n < 256 by omega)]
    · rw [if_neg hn, if_neg hn, List.map_cons, sevF_put f (n / 128) (by rw [e7, Nat.pow_add] at h; omega)]
      simp
theorem sevF_len : ∀ (f n : Nat), (sevF f n).length ≤ f + 1
  | 0, n => by simp [sevF]
  | f + 1, n => by
    unfold sevF
    split
    · simp
    · have := sevF_len f (n / 128); simp; omega

theorem and_127 (m : Nat) (h : m < 18446744073709551616) : bits .and .u64 (m : Int) 127 = ((m % 128 : Nat) : Int) := by
  have := u64_and_nat m 127 h (by omega)
  rw [show ((127 : Nat) : Int) = 127 from rfl] at this
  rw [this, show (127 : Nat) = 2 ^ 7 - 1 from rfl, Nat.and_two_pow_sub_one_eq_mod]

/-- The reference's step: the number grows by its seven. -/
theorem rseven (a c k q : Nat) (hq : q = 2 ^ (7 * k)) (ha : a < 2 ^ (7 * k)) (hc : c < 256) (hk : k ≤ 9) (h9 : k = 9 → c ≤ 1) :
    IntKind.u64.wrap ((a : Int) + IntKind.u64.wrap ((c : Int).tmod 128 * (q : Int))) = ((a + (c % 128) * 2 ^ (7 * k) : Nat) : Int) := by
  have hlt : a + (c % 128) * q < 18446744073709551616 := by
    by_cases h : k = 9
    · subst h; have := h9 rfl
      have : c % 128 ≤ 1 := by omega
      have := Nat.mul_le_mul_right q this
      have e : (2 : Nat) ^ (7 * 9) = 9223372036854775808 := by decide
      rw [e] at ha hq
      omega
    · have h1 : 2 ^ (7 * k) ≤ 2 ^ 56 := Nat.pow_le_pow_right (by omega) (by omega)
      have := Nat.mul_le_mul (show c % 128 ≤ 127 by omega) (hq ▸ h1)
      omega
  have e1 : (c : Int).tmod 128 * (q : Int) = ((c % 128 * q : Nat) : Int) := by
    rw [Int.tmod_eq_emod_of_nonneg (by omega), Int.natCast_mul]; rfl
  rw [e1, IntKind.wrap_u64, IntKind.wrap_u64, ← hq]
  generalize c % 128 * q = r at *
  omega
theorem rpow (k : Nat) (hk : k < 9) : IntKind.u64.wrap (((2 ^ (7 * k) : Nat) : Int) * 128) = ((2 ^ (7 * (k + 1)) : Nat) : Int) := by
  have h1 : 2 ^ (7 * k) ≤ 2 ^ 56 := Nat.pow_le_pow_right (by omega) (by omega)
  rw [IntKind.wrap_u64, show 7 * (k + 1) = 7 * k + 7 from by omega, Nat.pow_add]
  omega

/-- The low bits of a number with a sign: none below 0. -/
theorem and_low (x : Int) (m k : Nat) (hm : m = 2 ^ k - 1) (hk : k ≤ 62) : bits .and .i64 x m = (((BitVec.ofInt 64 x).toNat % 2 ^ k : Nat) : Int) := by
  have hp : 2 ^ k ≤ 2 ^ 62 := Nat.pow_le_pow_right (by omega) hk
  have hp0 : 0 < 2 ^ k := Nat.pow_pos (by omega)
  show IntKind.i64.wrap ((BitVec.ofInt 64 x &&& BitVec.ofInt 64 (m : Int)).toNat : Int) = _
  rw [BitVec.toNat_and, ofInt_u64 m (by omega), hm, Nat.and_two_pow_sub_one_eq_mod, IntKind.wrap_i64]
  have := Nat.mod_lt (BitVec.ofInt 64 x).toNat hp0
  generalize (BitVec.ofInt 64 x).toNat % 2 ^ k = y at *
  omega

end Go.Proofs.YthiliodmbipikaaGreat

set_option linter.unusedVariables false
set_option linter.unusedSimpArgs false
namespace Go.Proofs.YthiliodmbipikaaGreat
open Go.RowKit

theorem ofNat_toNat {n : Nat} (h : n < 256) : (UInt8.ofNat n).toNat = n := by
  rw [UInt8.toNat_ofNat']; exact Nat.mod_eq_of_lt h

theorem longB_no {c k : Nat} (h1 : k ≠ 9 ∨ c ≤ 1) (h2 : k = 0 ∨ c ≠ 0) : longB (c : Int) (k : Int) = false := by
  unfold longB
  rw [Bool.or_eq_false_iff]
  constructor
  · rcases h1 with h | h
    · rw [Bool.and_eq_false_iff]; left; simp; omega
    · rw [Bool.and_eq_false_iff]; right; simp; omega
  · rcases h2 with h | h
    · rw [Bool.and_eq_false_iff]; left; simp; omega
    · rw [Bool.and_eq_false_iff]; right; simp; omega

/-- What is put is got, whatever stands behind. -/
theorem vgetL_put : ∀ (f n k a : Nat) (r : List UInt8), k + f = 9 → n < 2 ^ (7 * f + 1) → (k ≠ 0 → n ≠ 0) →
    vgetL (vputF f n ++ r) k a = (a + n * 2 ^ (7 * k), k + (vputF f n).length, 0)
  | 0, n, k, a, r, hk, hn, h0 => by
    have hn : n < 2 := hn
    have e := ofNat_toNat (show n < 256 by omega)
    simp only [vputF, List.cons_append, List.nil_append, vgetL, e, List.length_cons, List.length_nil]
    rw [longB_no (.inr (by omega)) (by omega), if_neg (by simp), if_pos (by omega)]
  | f + 1, n, k, a, r, hk, hn, h0 => by
    unfold vputF
    by_cases hlt : n < 128
    · have e := ofNat_toNat (show n < 256 by omega)
      rw [if_pos hlt]
      simp only [List.cons_append, List.nil_append, vgetL, e, List.length_cons, List.length_nil]
      rw [longB_no (.inl (by omega)) (by omega), if_neg (by simp), if_pos hlt]
    · have e := ofNat_toNat (show n % 128 + 128 < 256 by omega)
      rw [if_neg hlt]
      simp only [List.cons_append, vgetL, e]
      rw [longB_no (.inl (by omega)) (.inr (by omega)), if_neg (by simp), if_neg (by omega),
        vgetL_put f (n / 128) (k + 1) _ r (by omega) (by rw [show 7 * (f + 1) + 1 = (7 * f + 1) + 7 from by omega, Nat.pow_add] at hn; omega) (by omega)]
      simp only [List.length_cons, Prod.mk.injEq, and_true]
      refine ⟨?_, by omega⟩
      rw [show 7 * (k + 1) = 7 * k + 7 from by omega, Nat.pow_add, Nat.add_sub_cancel, show (2 : Nat) ^ 7 = 128 from rfl, Nat.add_assoc]
      congr 1
      rw [Nat.mul_comm (2 ^ (7 * k)) 128, ← Nat.mul_assoc, ← Nat.add_mul]
      congr 1
      omega

theorem vget_put (ahead : List UInt8) (n : Nat) (behind : List UInt8) (hn : n < 18446744073709551616) :
    vget (ahead ++ (vput n ++ behind)) ahead.length = (n, (ahead.length : Int) + (vput n).length, 0) := by
  unfold vget
  rw [if_pos ⟨by omega, by simp; omega⟩, Int.toNat_natCast, List.drop_left]
  unfold vput
  rw [vgetL_put 9 n 0 0 behind rfl hn (by simp)]
  simp

theorem vputF_pos (f n : Nat) : 0 < (vputF f n).length := by
  cases f with
  | zero => simp [vputF]
  | succ f => unfold vputF; split <;> simp
theorem vput_pos (n : Nat) : 0 < (vput n).length := vputF_pos 9 n

/-- A number's bytes, cut short, are none. -/
theorem vgetL_cut : ∀ (f n k a c : Nat), k + f = 9 → n < 2 ^ (7 * f + 1) → c < (vputF f n).length → vgetL ((vputF f n).take c) k a = (0, 0, 10)
  | 0, n, k, a, c, hk, hn, hc => by
    have : c = 0 := by simp [vputF] at hc; omega
    subst this; rfl
  | f + 1, n, k, a, c, hk, hn, hc => by
    unfold vputF at hc ⊢
    by_cases hlt : n < 128
    · rw [if_pos hlt] at hc ⊢
      have : c = 0 := by simp at hc; omega
      subst this; rfl
    · rw [if_neg hlt] at hc ⊢
      cases c with
      | zero => rfl
      | succ c =>
        have e := ofNat_toNat (show n % 128 + 128 < 256 by omega)
        rw [List.take_succ_cons]
        simp only [vgetL, e]
        rw [longB_no (.inl (by omega)) (.inr (by omega)), if_neg (by simp), if_neg (by omega)]
        exact vgetL_cut f (n / 128) (k + 1) _ c (by omega) (by rw [show 7 * (f + 1) + 1 = (7 * f + 1) + 7 from by omega, Nat.pow_add] at hn; omega) (by simpa using hc)
theorem vget_cut (n c : Nat) (hn : n < 18446744073709551616) (hc : c < (vput n).length) : vget ((vput n).take c) 0 = (0, 0, 10) := by
  unfold vget
  rw [if_pos ⟨by omega, by omega⟩]
  simp only [Int.toNat_zero, List.drop_zero]
  unfold vput at hc ⊢
  rw [vgetL_cut 9 n 0 0 c rfl hn hc]
  simp

/-- What is got, put, is the bytes that it was got of. -/
theorem vgetL_back : ∀ (l : List UInt8) (f k a v c : Nat), k + f = 9 → vgetL l k a = (v, c, 0) → ∃ m, v = a + m * 2 ^ (7 * k) ∧ m < 2 ^ (7 * f + 1) ∧ k < c ∧ c ≤ k + l.length ∧ l.take (c - k) = vputF f m ∧ (k ≠ 0 → m ≠ 0)
  | [], f, k, a, v, c, hk, h => by simp [vgetL] at h
  | x :: l, f, k, a, v, c, hk, h => by
    unfold vgetL at h
    by_cases hb : longB x.toNat k = true
    · rw [if_pos hb] at h; simp at h
    · rw [if_neg hb] at h
      have hb' : longB (x.toNat : Int) (k : Int) = false := by simpa using hb
      have h9 := longB_nine hb'
      have h0 : k ≠ 0 → x.toNat ≠ 0 := by
        intro hk0 hx
        rw [hx] at hb'
        simp [longB] at hb'
        omega
      have hofn : UInt8.ofNat x.toNat = x := by simp
      by_cases hx : x.toNat < 128
      · rw [if_pos hx] at h
        simp only [Prod.mk.injEq, and_true] at h
        obtain ⟨rfl, rfl⟩ := h
        refine ⟨x.toNat, rfl, ?_, by omega, by simp, ?_, h0⟩
        · cases f with
          | zero => have := h9 (by omega); simp; omega
          | succ f => rw [show 7 * (f + 1) + 1 = (7 * f + 1) + 7 from by omega, Nat.pow_add]; have := Nat.pow_pos (n := 7 * f + 1) (show 0 < 2 by omega); omega
        · rw [show k + 1 - k = 1 from by omega]
          cases f with
          | zero => simp [vputF]
          | succ f => rw [vputF, if_pos hx]; simp
      · rw [if_neg hx] at h
        have hne : k ≠ 9 := fun e => by have := h9 e; omega
        obtain ⟨f, rfl⟩ : ∃ g, f = g + 1 := ⟨f - 1, by omega⟩
        obtain ⟨m, hv, hm, hc1, hc2, ht, hm0⟩ := vgetL_back l f (k + 1) _ v c (by omega) h
        have hm0 := hm0 (by omega)
        have hxl := x.toNat_lt
        refine ⟨x.toNat - 128 + m * 128, ?_, ?_, by omega, by simp; omega, ?_, by omega⟩
        · rw [hv, show 7 * (k + 1) = 7 * k + 7 from by omega, Nat.pow_add, show (2 : Nat) ^ 7 = 128 from rfl, Nat.add_mul, Nat.add_assoc]
          congr 2
          rw [Nat.mul_comm (2 ^ (7 * k)) 128, Nat.mul_assoc]
        · rw [show 7 * (f + 1) + 1 = (7 * f + 1) + 7 from by omega, Nat.pow_add]
          omega
        · rw [vputF, if_neg (by omega), show c - k = (c - (k + 1)) + 1 from by omega, List.take_succ_cons, ht, show (x.toNat - 128 + m * 128) / 128 = m from by omega]
          congr 1
          rw [show (x.toNat - 128 + m * 128) % 128 + 128 = x.toNat from by omega, hofn]
theorem vget_back {l : List UInt8} {n : Nat} {t : Int} (h : vget l 0 = (n, t, 0)) : 0 < t ∧ t ≤ l.length ∧ vput n = l.take t.toNat := by
  unfold vget at h
  rw [if_pos ⟨by omega, by omega⟩] at h
  simp only [Int.toNat_zero, List.drop_zero] at h
  split at h
  · rename_i h0
    obtain ⟨v, c, e⟩ : ∃ v c, vgetL l 0 0 = (v, c, 0) := ⟨(vgetL l 0 0).1, (vgetL l 0 0).2.1, Prod.ext rfl (Prod.ext rfl h0)⟩
    rw [e] at h
    simp only [Prod.mk.injEq, and_true] at h
    obtain ⟨rfl, rfl⟩ := h
    obtain ⟨m, hv, hm, hc1, hc2, ht, _⟩ := vgetL_back l 9 0 0 v c rfl e
    refine ⟨by omega, by omega, ?_⟩
    rw [show ((0 : Int) + (c : Int)).toNat = c - 0 from by omega, ht, hv]
    simp [vput]
  · rename_i h0
    simp only [Prod.mk.injEq] at h
    omega

/-- Numbers that are less have no more bytes. -/
theorem bitLenAux_mono : ∀ (f a b : Nat), a ≤ b → Lib.bitLenAux f a ≤ Lib.bitLenAux f b
  | 0, a, b, h => Nat.le_refl _
  | f + 1, a, b, h => by
    unfold Lib.bitLenAux
    have := bitLenAux_mono f (a / 2) (b / 2) (by omega)
    split
    · omega
    · rw [if_neg (by omega)]; omega
theorem vput_mono {a b : Nat} (hb : b < 18446744073709551616) (h : a ≤ b) : (vput a).length ≤ (vput b).length := by
  rw [vput_len a (by omega), vput_len b hb]
  have := bitLenAux_mono 64 a b h
  unfold Lib.bitLen
  omega

theorem zag_zig (n : Int) (h1 : -9223372036854775808 ≤ n) (h2 : n ≤ 9223372036854775807) : zag (zig n).toNat = n := by
  unfold zag zig
  split <;> split <;> omega
theorem zig_zag (m : Nat) : zig (zag m) = m := by
  unfold zag zig
  split <;> split <;> omega
theorem zig_bd (n : Int) (h1 : -9223372036854775808 ≤ n) (h2 : n ≤ 9223372036854775807) : 0 ≤ zig n ∧ zig n < 18446744073709551616 := by
  unfold zig; split <;> omega
theorem zag_bd (m : Nat) (h : m < 18446744073709551616) : -9223372036854775808 ≤ zag m ∧ zag m ≤ 9223372036854775807 := by
  unfold zag; split <;> omega
theorem vput_one (n : Nat) : (vput n).length = 1 ↔ n < 128 := by
  unfold vput vputF
  constructor
  · intro h
    by_cases hlt : n < 128
    · exact hlt
    · rw [if_neg hlt] at h
      have h3 := vputF_pos 8 (n / 128)
      have h2 : (vputF 8 (n / 128)).length = 0 := Nat.succ.inj h
      omega
  · intro h; rw [if_pos h]; rfl
/-- A text that is put is got, if it may be so long. -/
def vtxt (l : List UInt8) : List UInt8 := vput l.length ++ l
theorem vtext_put (ahead l behind : List UInt8) (most : Int) (hl : l.length < 18446744073709551616) (hm : (l.length : Int) ≤ most) :
    vtext (ahead ++ (vtxt l ++ behind)) ahead.length most = (l, (ahead.length : Int) + (vtxt l).length, 0) := by
  have h := vget_put ahead l.length (l ++ behind) hl
  have e : vtxt l ++ behind = vput l.length ++ (l ++ behind) := by unfold vtxt; rw [List.append_assoc]
  unfold vtext
  rw [e, h]
  simp only [ne_eq, not_true, if_false]
  rw [if_neg (by omega), if_neg (by simp; omega)]
  have e2 : ((ahead.length : Int) + (vput l.length).length).toNat = (ahead ++ vput l.length).length := by rw [List.length_append]; omega
  rw [e2, ← List.append_assoc, List.drop_left, List.take_left]
  simp only [vtxt, List.length_append, Prod.mk.injEq, and_true, true_and]
  omega
theorem vtext_big (ahead l behind : List UInt8) (most : Int) (hl : l.length < 18446744073709551616) (hm : most < (l.length : Int)) :
    vtext (ahead ++ (vtxt l ++ behind)) ahead.length most = ([], 0, 2) := by
  have h := vget_put ahead l.length (l ++ behind) hl
  have e : vtxt l ++ behind = vput l.length ++ (l ++ behind) := by unfold vtxt; rw [List.append_assoc]
  unfold vtext
  rw [e, h]
  simp only [ne_eq, not_true, if_false]
  rw [if_pos (by omega)]
/-- Cut short, a text is none. -/
theorem vtext_cut (l : List UInt8) (c : Nat) (hl : l.length < 18446744073709551616) (most : Int) (hm : (l.length : Int) ≤ most) (hc : c < (vtxt l).length) :
    vtext ((vtxt l).take c) 0 most = ([], 0, 10) := by
  unfold vtext
  by_cases h : c < (vput l.length).length
  · have e : (vtxt l).take c = (vput l.length).take c := by unfold vtxt; rw [List.take_append_of_le_length (by omega)]
    rw [e, vget_cut _ _ hl h]
    simp
  · have e : (vtxt l).take c = vput l.length ++ l.take (c - (vput l.length).length) := by
      unfold vtxt; rw [List.take_append, List.take_of_length_le (by omega)]
    have hg := vget_put [] l.length (l.take (c - (vput l.length).length)) hl
    simp only [List.nil_append, List.length_nil] at hg
    unfold vtxt at hc
    rw [List.length_append] at hc
    rw [show ((0 : Nat) : Int) = 0 from rfl] at hg
    rw [e, hg]
    simp only [ne_eq, not_true, if_false]
    rw [if_neg (show ¬ (most < 0 ∨ most < ((l.length : Nat) : Int)) by omega), if_pos (by rw [List.length_append, List.length_take]; omega)]

end Go.Proofs.YthiliodmbipikaaGreat

set_option linter.unusedVariables false
set_option linter.unusedSimpArgs false
namespace Go.Proofs.YthiliodmbipikaaGreat
open Go.RowKit

theorem vputF_le0 : ∀ f n, (vputF f n).length ≤ f + 1
  | 0, n => by simp [vputF]
  | f + 1, n => by
    unfold vputF
    split
    · simp
    · have := vputF_le0 f (n / 128); simp; omega
theorem vputF_le' (n : Nat) : (vput n).length ≤ 10 := vputF_le0 9 n
/-- A record: has it a key, its key, is it a tomb, its value. -/
structure Rec where
  hk : Bool
  key : List UInt8
  tb : Bool
  val : List UInt8
deriving DecidableEq

/-- May a record be? -/
def rcheck (hk : Bool) (k : List UInt8) (tb : Bool) (v : List UInt8) : Nat :=
  if (!hk && !k.isEmpty) || (tb && (!hk || !v.isEmpty)) then 30 else if 64 < k.length ∨ 512 < v.length then 2 else 0
/-- The bytes of a record that may be. -/
def rtext (hk : Bool) (k : List UInt8) (tb : Bool) (v : List UInt8) : List UInt8 :=
  if tb then 3 :: vtxt k else if hk then 1 :: (vtxt k ++ vtxt v) else 0 :: vtxt v
/-- May a number be? -/
def numB (n : Int) : Bool := decide (0 ≤ n) && decide (n ≤ 1099511627776)

theorem rcheck_ok {hk tb : Bool} {k v : List UInt8} (h : rcheck hk k tb v = 0) : (tb = true → hk = true) ∧ (hk = false → k = []) ∧ (tb = true → v = []) ∧ k.length ≤ 64 ∧ v.length ≤ 512 := by
  unfold rcheck at h
  split at h
  · cases h
  · rename_i h1
    split at h
    · cases h
    · rename_i h2
      refine ⟨?_, ?_, ?_, by omega, by omega⟩ <;> revert h1 <;> cases hk <;> cases tb <;> cases k <;> cases v <;> simp
theorem rcheck_cases (hk tb : Bool) (k v : List UInt8) : rcheck hk k tb v = 0 ∨ rcheck hk k tb v = 30 ∨ rcheck hk k tb v = 2 := by
  unfold rcheck; split
  · simp
  · split <;> simp

/-- A record's bytes, or what is wrong. -/
def rput (hk : Bool) (k : List UInt8) (tb : Bool) (v : List UInt8) : List UInt8 × Nat := if rcheck hk k tb v = 0 then (rtext hk k tb v, 0) else ([], rcheck hk k tb v)
theorem rtext_le {hk tb : Bool} {k v : List UInt8} (h1 : k.length ≤ 1000) (h2 : v.length ≤ 1000) : (rtext hk k tb v).length ≤ 2021 := by
  have a := vputF_le' k.length
  have b := vputF_le' v.length
  unfold rtext vtxt
  split
  · simp; omega
  · split <;> simp <;> omega
def Rec.ok (r : Rec) : Nat := rcheck r.hk r.key r.tb r.val
def Rec.text (r : Rec) : List UInt8 := rtext r.hk r.key r.tb r.val
end Go.Proofs.YthiliodmbipikaaGreat

set_option linter.unusedVariables false
set_option linter.unusedSimpArgs false
namespace Go.Proofs.YthiliodmbipikaaGreat
open Go.RowKit

theorem bcell {W w1 : World} (hb : Below W.heap.size W w1) : (∀ b o, b < W.heap.size → w1.cell? ⟨b, o, none⟩ = W.cell? ⟨b, o, none⟩) ∧ (∀ b o, b < W.heap.size → w1.frozen? ⟨b, o, none⟩ = W.frozen? ⟨b, o, none⟩) :=
  ⟨fun b o h => hb.cell (p := ⟨b, o, none⟩) h, fun b o h => hb.frozen (p := ⟨b, o, none⟩) h⟩
theorem below_all {w W : World} {o : Obj} (h : Below w.heap.size w W) : Below w.heap.size w (W.alloc o) := h.alloc h.size o

theorem belowN {B : Nat} {a w : World} (h : Below B a w) (n : Nat) : Below B a (w.drewN n) := h.trans ⟨rfl, rfl, rfl, Nat.le_refl _, fun _ _ => rfl⟩

/-- Block b is just these cells, none of them frozen. -/
def Blk (w : World) (b : Nat) (cs : Array Value) (T : TypeId) : Prop := w.heap[b]? = some (.cells cs T (0, 0))
section
variable {w W : World} {b : Nat} {cs : Array Value} {T : TypeId}
theorem Blk.lt (h : Blk w b cs T) : b < w.heap.size := (Array.getElem?_eq_some_iff.1 h).1
theorem Blk.old (w : World) (o : Obj) (b : Nat) (h : b < w.heap.size) : (w.alloc o).heap[b]? = w.heap[b]? := ((Below.refl w.heap.size w).alloc (Nat.le_refl _) o).block b h
theorem Blk.new (w : World) (cs : Array Value) (T : TypeId) : Blk (w.alloc (.cells cs T)) w.heap.size cs T := by unfold Blk; exact heap_alloc_new w _
theorem Blk.below (h : Blk w b cs T) (hb : Below w.heap.size w W) : Blk W b cs T := (hb.block _ h.lt).trans h
theorem Blk.alloc (h : Blk w b cs T) (o : Obj) : Blk (w.alloc o) b cs T := (Blk.old w o b h.lt).trans h
theorem Blk.drew (h : Blk w b cs T) : Blk w.drew b cs T := h
theorem Blk.grown {row : Option Nat} (h : Blk w b cs T) (hg : w.grownBy W row) (hne : some b ≠ row) : Blk W b cs T := (hg.block b h.lt hne).trans h
theorem Blk.set (h : Blk w b cs T) (i : Nat) (v : Value) : Blk (w.setCell ⟨b, i, none⟩ v) b (cs.setIfInBounds i v) T := heap_setCell_same w b i cs T v h
theorem Blk.setOther {a : Addr} (h : Blk w b cs T) (hne : b ≠ a.block) (v : Value) : Blk (w.setCell a v) b cs T := (heap_setCell_other w a b v hne).trans h
theorem Blk.cell (h : Blk w b cs T) (i : Nat) : w.cell? ⟨b, i, none⟩ = cs[i]? := cell_of_row w b i cs T (0, 0) h
theorem Blk.frozen (h : Blk w b cs T) (i : Nat) : w.frozen? ⟨b, i, none⟩ = false := frozen_of_row w b i cs T h
end
theorem grown_set {a w : World} {b : Nat} (h : a.grownBy w (some b)) (i : Nat) (v : Value) : a.grownBy (w.setCell ⟨b, i, none⟩ v) (some b) :=
  h.trans ⟨rfl, rfl, rfl, by simp [World.setCell], fun k _ hk => heap_setCell_other _ _ _ _ (fun e => hk (by rw [e]))⟩
theorem grown_drew {a w : World} {row : Option Nat} (h : a.grownBy w row) : a.grownBy w.drew row := ⟨h.os, h.tape, h.output, h.size, h.block⟩
theorem grown_alloc {a w : World} {row : Option Nat} (h : a.grownBy w row) (o : Obj) : a.grownBy (w.alloc o) row := h.trans (World.grownBy_alloc w o row)
theorem grown_refl (w : World) (row : Option Nat) : w.grownBy w row := ⟨rfl, rfl, rfl, Nat.le_refl _, fun _ _ _ => rfl⟩
theorem grown_below {a w W : World} {row : Option Nat} (h : a.grownBy w row) (hb : Below w.heap.size w W) : a.grownBy W row := h.trans ⟨hb.os, hb.tape, hb.output, hb.size, fun i hi _ => hb.block i hi⟩
/-- A block that the call has laid itself may be written. -/
theorem below_own {B : Nat} {a w W : World} {b : Nat} (h : Below B a w) (hB : B ≤ b) (hBw : B ≤ w.heap.size) (hg : w.grownBy W (some b)) : Below B a W :=
  ⟨hg.os.trans h.os, hg.tape.trans h.tape, hg.output.trans h.output, Nat.le_trans h.size hg.size, fun k hk => (hg.block k (by omega) (fun e => by cases e; omega)).trans (h.block k hk)⟩
theorem Blk.c1 {w : World} {b : Nat} {T : TypeId} {x0 : Value} (h : Blk w b #[x0] T) : b < w.heap.size ∧ w.cell? ⟨b, 0, none⟩ = some x0 := ⟨h.lt, h.cell 0⟩
theorem Blk.c2 {w : World} {b : Nat} {T : TypeId} {x0 x1 : Value} (h : Blk w b #[x0, x1] T) : b < w.heap.size ∧ w.cell? ⟨b, 0, none⟩ = some x0 ∧ w.cell? ⟨b, 1, none⟩ = some x1 := ⟨h.lt, h.cell 0, h.cell 1⟩
theorem Blk.c3 {w : World} {b : Nat} {T : TypeId} {x0 x1 x2 : Value} (h : Blk w b #[x0, x1, x2] T) : b < w.heap.size ∧ w.cell? ⟨b, 0, none⟩ = some x0 ∧ w.cell? ⟨b, 1, none⟩ = some x1 ∧ w.cell? ⟨b, 2, none⟩ = some x2 := ⟨h.lt, h.cell 0, h.cell 1, h.cell 2⟩
theorem Blk.c4 {w : World} {b : Nat} {T : TypeId} {x0 x1 x2 x3 : Value} (h : Blk w b #[x0, x1, x2, x3] T) : b < w.heap.size ∧ w.cell? ⟨b, 0, none⟩ = some x0 ∧ w.cell? ⟨b, 1, none⟩ = some x1 ∧ w.cell? ⟨b, 2, none⟩ = some x2 ∧ w.cell? ⟨b, 3, none⟩ = some x3 := ⟨h.lt, h.cell 0, h.cell 1, h.cell 2, h.cell 3⟩
end Go.Proofs.YthiliodmbipikaaGreat
