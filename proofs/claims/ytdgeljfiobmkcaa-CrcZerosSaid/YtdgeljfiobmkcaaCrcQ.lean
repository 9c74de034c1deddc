/-
  Layer 2, plain laws: frames.
-/
import Derived.Test.YtdgeljfiobmkcaaCrcS
import Derived.Test.YtdgeljfiobmkcaaFix2
set_option linter.unusedVariables false
set_option linter.unusedSimpArgs false
namespace Go.Proofs.Ytdgeljfiobmkcaa

theorem crcCut_of {l : List UInt8} {p most : Int} {t : List UInt8} {to : Int} (h : vtext l p most = (t, to, 0)) (h4 : 4 ≤ (l.length : Int) - to) (h5 : (l.drop to.toNat).take 4 = four (crcSum t)) : crcCut l p most = (t, to + 4, 0) := by
  unfold crcCut
  rw [h]
  simp only
  rw [if_neg (by decide), if_neg (by omega), if_neg (by simpa using h5)]
theorem crcCut_err {l : List UInt8} {p most : Int} {t : List UInt8} {to e : Int} (h : vtext l p most = (t, to, e)) (h0 : e ≠ 0) : crcCut l p most = ([], 0, e) := by
  unfold crcCut
  rw [h]
  simp only
  rw [if_pos h0]
theorem crcCut_frame (ahead a behind : List UInt8) (most : Int) (hl : a.length < 18446744073709551616) (hm : (a.length : Int) ≤ most) :
    crcCut (ahead ++ (crcFrame a ++ behind)) ahead.length most = (a, ((ahead.length + (crcFrame a).length : Nat) : Int), 0) := by
  have e : ahead ++ (crcFrame a ++ behind) = ahead ++ (vtxt a ++ (four (crcSum a) ++ behind)) := by simp [crcFrame, List.append_assoc]
  have h := vtext_put ahead a (four (crcSum a) ++ behind) most hl hm
  rw [e]
  have hf : (crcFrame a).length = (vtxt a).length + 4 := by simp [crcFrame, four_len]
  rw [crcCut_of h]
  · simp only [Prod.mk.injEq]; exact ⟨trivial, by omega, trivial⟩
  · simp only [List.length_append, four_len]; omega
  · rw [show ((ahead.length : Int) + (vtxt a).length).toNat = (ahead ++ vtxt a).length by rw [List.length_append]; omega, ← List.append_assoc, List.drop_left]
    rw [List.take_append_of_le_length (by rw [four_len]; exact Nat.le_refl _)]
    exact List.take_of_length_le (by rw [four_len]; exact Nat.le_refl _)
theorem crcCut_big (ahead a behind : List UInt8) (most : Int) (hl : a.length < 18446744073709551616) (hm : most < (a.length : Int)) :
    crcCut (ahead ++ (crcFrame a ++ behind)) ahead.length most = ([], 0, 2) := by
  have e : ahead ++ (crcFrame a ++ behind) = ahead ++ (vtxt a ++ (four (crcSum a) ++ behind)) := by simp [crcFrame, List.append_assoc]
  have h := vtext_big ahead a (four (crcSum a) ++ behind) most hl hm
  rw [e]
  exact crcCut_err h (by decide)
theorem crcFrame_le (a : List UInt8) : (crcFrame a).length ≤ a.length + 14 := by
  have := vtxt_le a
  simp only [crcFrame, List.length_append, four_len]
  omega
theorem rcut_eq {l : List UInt8} {p most : Int} {x : List UInt8} {t e : Int} (h : crcCut l p most = (x, t, e)) (w : World) (hl : l.length ≤ 9000000000000000000) (hm : most ≤ 9223372036854775807) :
    RetB Try.prog 37 #[.string (S l), .int .i64 p, .int .i64 most] w (.tuple #[.string (S x), .int .i64 t, .int .i64 e]) :=
  (rcut_any l p most w hl hm).cast (by rw [h])
theorem sum_eq {l : List UInt8} {x : Int} (h : (crcSum l : Int) = x) (w : World) (hl : l.length ≤ maxLen) : RetB Try.prog 31 #[.string (S l)] w (.int .u32 x) := (sum_any l w hl).cast (by rw [h])
theorem rsum_eq {l : List UInt8} {x : Int} (h : (crcSum l : Int) = x) (w : World) (hl : l.length ≤ maxLen) : Ret Try.prog 32 #[.string (S l)] w (.int .u32 x) := (rsum_any l w hl).cast (by rw [h])
theorem sum_parts (l : List UInt8) (k : Nat) : crcMore (crcSum (l.take k)) (l.drop k) = crcSum l := by
  unfold crcSum
  rw [more_more (by decide), List.take_append_drop]
theorem sum_none (l : List UInt8) : crcMore (crcSum l) [] = crcSum l := by
  unfold crcSum
  rw [more_more (by decide), List.append_nil]
theorem sum_snoc (l m : List UInt8) : crcMore (crcSum l) m = crcSum (l ++ m) := by
  unfold crcSum
  rw [more_more (by decide)]
end Go.Proofs.Ytdgeljfiobmkcaa
