/-
  Layer 3, plain: what the reader reads.
-/
import Derived.Test.YtkgpckfaghpgmaaRecM
set_option linter.unusedVariables false
set_option linter.unusedSimpArgs false
namespace Go.Proofs.Ytkgpckfaghpgmaa
open Go.RowKit

/-- What a reader's text, number, first byte and record are, where it stands then, and what is wrong. -/
def mtext (s : List UInt8) (at_ e : Int) (has : Bool) (most : Int) : List UInt8 × Int × Int := if e = 0 ∧ has = true then vtext s at_ most else ([], at_, e)
def mnum (s : List UInt8) (at_ e : Int) : Nat × Int × Int := if e = 0 then vget s at_ else (0, at_, e)
def mfirst (s : List UInt8) (at_ e : Int) : Nat × Int × Int :=
  if e ≠ 0 then (0, at_, e) else if ¬ (0 ≤ at_ ∧ at_ ≤ s.length) then (0, at_, 1) else
  match s.drop at_.toNat with
  | [] => (0, at_, 10)
  | c :: _ => (c.toNat, at_ + 1, if c.toNat = 0 ∨ c.toNat = 1 ∨ c.toNat = 3 then 0 else 30)
def mrec (s : List UInt8) (at_ e : Int) : Rec × Int × Int :=
  let c := mfirst s at_ e
  let hk := decide (c.1 % 2 = 1)
  let tb := decide (c.1 / 2 % 2 = 1)
  let k := mtext s c.2.1 c.2.2 hk 64
  let v := mtext s k.2.1 k.2.2 (!tb) 512
  (⟨hk, k.1, tb, v.1⟩, v.2.1, v.2.2)
def mget (s : List UInt8) (at_ : Int) : Rec × Int × Int :=
  if (mrec s at_ 0).2.2 = 0 then ((mrec s at_ 0).1, (mrec s at_ 0).2.1, 0) else (⟨false, [], false, []⟩, 0, (mrec s at_ 0).2.2)
theorem mfirst_bd (s : List UInt8) (at_ e : Int) : (mfirst s at_ e).1 < 256 := by
  unfold mfirst
  split
  · simp
  · split
    · simp
    · split
      · simp
      · exact UInt8.toNat_lt _
theorem mrec_eq {s : List UInt8} {at_ e : Int} {c : Nat} {a1 e1 a2 e2 a3 e3 : Int} {k v : List UInt8} {hk tb : Bool} (h1 : mfirst s at_ e = (c, a1, e1)) (hh : decide (c % 2 = 1) = hk) (ht : decide (c / 2 % 2 = 1) = tb)
    (h2 : mtext s a1 e1 hk 64 = (k, a2, e2)) (h3 : mtext s a2 e2 (!tb) 512 = (v, a3, e3)) : mrec s at_ e = (⟨hk, k, tb, v⟩, a3, e3) := by
  unfold mrec
  simp only [h1, hh, ht, h2, h3]
theorem and_bits (c : Nat) (h : c < 256) : (bits .and .u8 (c : Int) 1 != 0) = decide (c % 2 = 1) ∧ (bits .and .u8 (c : Int) 2 != 0) = decide (c / 2 % 2 = 1) := by
  have : ∀ c : Fin 256, (bits .and .u8 (c.val : Int) 1 != 0) = decide (c.val % 2 = 1) ∧ (bits .and .u8 (c.val : Int) 2 != 0) = decide (c.val / 2 % 2 = 1) := by decide +kernel
  exact this ⟨c, h⟩
def r0 : Rec := ⟨false, [], false, []⟩
theorem mget_of {s : List UInt8} {at_ : Int} {r : Rec} {to e : Int} (h : mrec s at_ 0 = (r, to, e)) : mget s at_ = if e = 0 then (r, to, 0) else (r0, 0, e) := by
  unfold mget; rw [h]; rfl
theorem mget_out {s : List UInt8} {at_ : Int} (h : ¬ (0 ≤ at_ ∧ at_ ≤ s.length)) : mget s at_ = (r0, 0, 1) := by
  have h1 : mfirst s at_ 0 = (0, at_, 1) := by unfold mfirst; rw [if_neg (by simp), if_pos h]
  rw [mget_of (mrec_eq h1 rfl rfl (by unfold mtext; rw [if_neg (by decide)]) (by unfold mtext; rw [if_neg (by decide)])), if_neg (by decide)]
theorem mget_end {s : List UInt8} {k : Nat} (h : k = s.length) : mget s (k : Int) = (r0, 0, 10) := by
  have h1 : mfirst s k 0 = (0, (k : Int), 10) := by unfold mfirst; rw [if_neg (by simp), if_neg (by simp; omega), Int.toNat_natCast, List.drop_eq_nil_of_le (by omega)]
  rw [mget_of (mrec_eq h1 rfl rfl (by unfold mtext; rw [if_neg (by decide)]) (by unfold mtext; rw [if_neg (by decide)])), if_neg (by decide)]
theorem mfirst_at {s : List UInt8} {k c : Nat} (h : k < s.length) (hc : s[k].toNat = c) : mfirst s k 0 = (c, (k : Int) + 1, if c = 0 ∨ c = 1 ∨ c = 3 then 0 else 30) := by
  unfold mfirst; rw [if_neg (by simp), if_neg (by simp; omega), Int.toNat_natCast, List.drop_eq_getElem_cons h]; simp only [hc]
theorem mget_bad {s : List UInt8} {k c : Nat} (h : k < s.length) (hc : s[k].toNat = c) (hb : ¬ (c = 0 ∨ c = 1 ∨ c = 3)) : mget s (k : Int) = (r0, 0, 30) := by
  have h1 := mfirst_at h hc
  rw [if_neg hb] at h1
  rw [mget_of (mrec_eq h1 rfl rfl (by unfold mtext; rw [if_neg (by simp)]) (by unfold mtext; rw [if_neg (by simp)])), if_neg (by decide)]
theorem mget_0 {s : List UInt8} {k : Nat} (h : k < s.length) (hc : s[k].toNat = 0) {v : List UInt8} {to e : Int} (hv : vtext s ((k : Int) + 1) 512 = (v, to, e)) :
    mget s (k : Int) = if e = 0 then (⟨false, [], false, v⟩, to, 0) else (r0, 0, e) := by
  have h1 := mfirst_at h hc
  rw [if_pos (by simp)] at h1
  exact mget_of (mrec_eq h1 (hk := false) (tb := false) rfl rfl (by unfold mtext; rw [if_neg (by simp)]) (by unfold mtext; rw [if_pos (by simp), hv]))
theorem mget_1 {s : List UInt8} {k : Nat} (h : k < s.length) (hc : s[k].toNat = 1) {x v : List UInt8} {t2 to e : Int} (h2 : vtext s ((k : Int) + 1) 64 = (x, t2, 0)) (hv : vtext s t2 512 = (v, to, e)) :
    mget s (k : Int) = if e = 0 then (⟨true, x, false, v⟩, to, 0) else (r0, 0, e) := by
  have h1 := mfirst_at h hc
  rw [if_pos (by simp)] at h1
  exact mget_of (mrec_eq h1 (hk := true) (tb := false) rfl rfl (by unfold mtext; rw [if_pos (by simp), h2]) (by unfold mtext; rw [if_pos (by simp), hv]))
theorem mget_1e {s : List UInt8} {k : Nat} (h : k < s.length) (hc : s[k].toNat = 1) {x : List UInt8} {t2 e2 : Int} (h2 : vtext s ((k : Int) + 1) 64 = (x, t2, e2)) (he : e2 ≠ 0) :
    mget s (k : Int) = (r0, 0, e2) := by
  have h1 := mfirst_at h hc
  rw [if_pos (by simp)] at h1
  rw [mget_of (mrec_eq h1 (hk := true) (tb := false) rfl rfl (by unfold mtext; rw [if_pos (by simp), h2]) (by unfold mtext; rw [if_neg (by simp [he])])), if_neg he]
theorem mget_3 {s : List UInt8} {k : Nat} (h : k < s.length) (hc : s[k].toNat = 3) {x : List UInt8} {t2 e2 : Int} (h2 : vtext s ((k : Int) + 1) 64 = (x, t2, e2)) :
    mget s (k : Int) = if e2 = 0 then (⟨true, x, true, []⟩, t2, 0) else (r0, 0, e2) := by
  have h1 := mfirst_at h hc
  rw [if_pos (by simp)] at h1
  exact mget_of (mrec_eq h1 (hk := true) (tb := true) rfl rfl (by unfold mtext; rw [if_pos (by simp), h2]) (by unfold mtext; rw [if_neg (by simp)]))
end Go.Proofs.Ytkgpckfaghpgmaa
