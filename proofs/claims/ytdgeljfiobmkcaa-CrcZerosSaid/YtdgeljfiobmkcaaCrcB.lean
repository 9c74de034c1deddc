/-
  Layer 2: the program's sum, its bytes, frames: contracts.
-/
import Derived.Test.YtdgeljfiobmkcaaCrcA
import Derived.Test.YtdgeljfiobmkcaaText1
import Derived.Deep.RegionHeld3
set_option linter.unusedVariables false
set_option linter.unusedSimpArgs false
namespace Go.Proofs.Ytdgeljfiobmkcaa
open Go.RowKit
attribute [local go_sem] ByteArray.extract_mk ByteArray.mk_append_mk

theorem sum_any (l : List UInt8) (w : World) (hl : l.length ≤ maxLen) : RetB Try.prog 31 #[.string (S l)] w (.int .u32 (crcSum l : Nat)) := by
  refine RetB.intro fun R hR => ?_
  have hc := fun w => (more_any 0 l w (by decide) hl).cast (v' := .int .u32 (crcSum l : Nat)) rfl
  go_enter Try.func31, Try.ntmps31
  go_wp2_with (go_at_call 33; refine (hc _).use ?_; intro w1 hb1)
  exact finB hR hb1 rfl
def quad (n k : Nat) : List Value := (List.range 4).map fun i => .int .u8 ((if i < k then n / 256 ^ i % 256 else 0 : Nat) : Int)
theorem quad_set (n k : Nat) (h : k < 4) : (quad n k).set k (.int .u8 (n / 256 ^ k % 256 : Nat)) = quad n (k + 1) := by
  apply List.ext_getElem
  · simp [quad]
  · intro i h1 h2
    simp only [quad, List.getElem_set, List.getElem_map, List.getElem_range]
    by_cases e : k = i
    · subst e; simp
    · rw [if_neg e]
      by_cases e2 : i < k
      · rw [if_pos e2, if_pos (by omega)]
      · rw [if_neg e2, if_neg (by omega)]
theorem quad_get (n i : Nat) (h : i < 4) : (quad n 4)[i]? = some (.int .u8 (n / 256 ^ i % 256 : Nat)) := by simp [quad, h]
def quadNs (n : Nat) : List Int := [((n % 256 : Nat) : Int), ((n / 256 % 256 : Nat) : Int), ((n / 65536 % 256 : Nat) : Int), ((n / 16777216 % 256 : Nat) : Int)]
theorem quadNs_str {n : Nat} (hn : n < 4294967296) : strOfNums (quadNs n) = S (four n) := by
  have : n / 16777216 % 256 = n / 16777216 := Nat.mod_eq_of_lt (by omega)
  simp only [strOfNums, quadNs, S, four, List.map, this, Int.toNat_natCast]
theorem quad_set0 (n : Nat) : (quad n 0).set 0 (.int .u8 ((n : Int) % 256)) = quad n 1 := by
  rw [← quad_set n 0 (by decide)]; congr 2; simp only [Nat.pow_zero]; omega
theorem quad_set1 (n : Nat) : (quad n 1).set 1 (.int .u8 ((n : Int) / 256 % 256)) = quad n 2 := by
  rw [← quad_set n 1 (by decide)]; congr 2
theorem quad_set2 (n : Nat) : (quad n 2).set 2 (.int .u8 ((n : Int) / 65536 % 256)) = quad n 3 := by
  rw [← quad_set n 2 (by decide)]; congr 2
theorem quad_set3 {n : Nat} (hn : n < 4294967296) : (quad n 3).set 3 (.int .u8 ((n : Int) / 16777216)) = quad n 4 := by
  rw [← quad_set n 3 (by decide)]; congr 2; rw [show (256 : Nat) ^ 3 = 16777216 by decide]; omega
set_option maxRecDepth 100000 in
theorem laid_any (n : Nat) (w : World) (hn : n < 4294967296) : RetB Try.prog 45 #[.int .u32 (n : Nat)] w (.string (S (four n))) := by
  refine RetB.intro fun R hR => ?_
  have hmk : ∀ w, (Instr.makeSlice 48 (.int .i64 4) (.int .i64 4)).run Try.prog w = .ok (.slice (some ⟨w.heap.size, 0, none⟩) 4 4) (w.alloc (.cells #[.int .u8 0, .int .u8 0, .int .u8 0, .int .u8 0] 5)) := fun _ => by kernel_rfl
  go_enter Try.func45, Try.ntmps45
  go_wp2
  clear hmk
  go_loopw [8] (fun (v8 : Value) (w1 : World) => ∃ k : Nat, k ≤ 4 ∧ v8 = .int .i64 (k : Int) ∧ w1 = w.alloc (.cells (quad n k).toArray 5)) (fun (v8 : Value) (w1 : World) => (4 - intOf v8).toNat)
  case atStart => exact ⟨0, by omega, rfl, rfl⟩
  case round =>
    obtain ⟨k, hk, rfl, rfl⟩ := hrel
    have hl : (quad n k).length = 4 := rfl
    rcases (by omega : k = 0 ∨ k = 1 ∨ k = 2 ∨ k = 3 ∨ k = 4) with rfl | rfl | rfl | rfl | rfl
    · go_wp2
      go_roundw
      case rel => exact ⟨1, by omega, by go_num, by rw [quad_set0]⟩
      case measure => simp [intOf]
    · go_wp2
      go_roundw
      case rel => exact ⟨2, by omega, by go_num, by rw [quad_set1]⟩
      case measure => simp [intOf]
    · go_wp2
      go_roundw
      case rel => exact ⟨3, by omega, by go_num, by rw [quad_set2]⟩
      case measure => simp [intOf]
    · go_wp2
      go_roundw
      case rel => exact ⟨4, by omega, by go_num, by rw [quad_set3 hn]⟩
      case measure => simp [intOf]
    · have hcv := run_convert_bytes_arg (P := Try.prog) (w.alloc (.cells (quad n 4).toArray 5)) 48 5 Try.underlying48 Try.underlying5 w.heap.size 0 4 4 (quadNs n) rfl (by
        intro i hi
        rw [Nat.zero_add, World.cell?_alloc_new, List.getElem?_toArray, quad_get n i hi]
        rcases (by omega : i = 0 ∨ i = 1 ∨ i = 2 ∨ i = 3) with rfl | rfl | rfl | rfl <;> simp [quadNs]) 9 Try.underlying9
      rw [quadNs_str hn] at hcv
      go_wp2
      exact finB hR ((Below.refl _ _).alloc (Nat.le_refl _) _) rfl

theorem vtxt_le (l : List UInt8) : (vtxt l).length ≤ l.length + 10 := by
  have := vput_le l.length
  unfold vtxt
  rw [List.length_append]
  omega
theorem frame_any (l : List UInt8) (w : World) (hl : l.length ≤ 9000000000000000000) : RetB Try.prog 38 #[.string (S l)] w (.string (S (crcFrame l))) := by
  refine RetB.intro fun R hR => ?_
  have hc := fun w => sum_any l w (by unfold maxLen; omega)
  have hb := sum_bd l
  have hd := fun w => laid_any (crcSum l) w hb
  have ht := fun w => puttext_any l w hl
  have hv := vtxt_le l
  have h4 := four_len (crcSum l)
  have hf : crcFrame l = vtxt l ++ four (crcSum l) := rfl
  rw [hf, ← S_append] at hR
  clear hf
  generalize four (crcSum l) = f4 at *
  generalize vtxt l = v at *
  have hle : ¬ 9223372036854775807 < v.length + f4.length := by omega
  have h4 := Lib.hid h4
  go_enter Try.func38, Try.ntmps38
  go_wp2_with (first | (go_at_call 30; refine (ht _).use ?_; intro w1 hb1) | (go_at_call 31; refine (hc _).use ?_; intro w2 hb2) | (go_at_call 45; refine (hd _).use ?_; intro w3 hb3))
  exact finB hR (below_any (Nat.le_refl _) (below_any (Nat.le_refl _) hb1 hb2) hb3) rfl

set_option maxHeartbeats 1000000 in
set_option maxRecDepth 100000 in
theorem cut_any (l : List UInt8) (p most : Int) (w : World) (hl : l.length ≤ 9000000000000000000) (hm : most ≤ 9223372036854775807) :
    RetB Try.prog 36 #[.string (S l), .int .i64 p, .int .i64 most] w (.tuple #[.string (S (crcCut l p most).1), .int .i64 (crcCut l p most).2.1, .int .i64 (crcCut l p most).2.2]) := by
  refine RetB.intro fun R hR => ?_
  obtain ⟨t, to, e, hv⟩ : ∃ t to e, vtext l p most = (t, to, e) := ⟨_, _, _, rfl⟩
  obtain ⟨b1, b2, b3⟩ := vtext_bd hv
  have hc := fun w => vtext_eq hv w (by unfold maxLen; omega) hm
  unfold crcCut at hR
  rw [hv] at hR
  simp only at hR
  clear hv hm
  by_cases h0 : e = 0
  · subst h0
    obtain ⟨c1, c2, c3, c4, c5, c6⟩ := b1 rfl
    clear b1 b2 b3
    rw [if_neg (by decide)] at hR
    obtain ⟨to, rfl⟩ := Int.eq_ofNat_of_zero_le c3
    by_cases h1 : (l.length : Int) - to < 4
    · rw [if_pos h1] at hR
      go_enter Try.func36, Try.ntmps36
      go_wp2_with (go_at_call 28; refine (hc _).use ?_)
      go_ret3
      exact finB hR (Below.refl _ _) rfl
    · rw [if_neg h1, Int.toNat_natCast] at hR
      have htl : t.length ≤ l.length := by omega
      have hcs := fun w => sum_any t w (by unfold maxLen; omega)
      have hb := sum_bd t
      have hd := fun w => laid_any (crcSum t) w hb
      have hsl : (l.drop to).take 4 = (l.drop to).take (((to : Int) + 4).toNat - to) := by rw [show ((to : Int) + 4).toNat - to = 4 by omega]
      rw [hsl] at hR
      clear hsl
      generalize four (crcSum t) = f4 at *
      have h1b : decide ((l.length : Int) - to < 4) = false := decide_eq_false h1
      have g0 : (0 : Int) ≤ (to : Int) := by omega
      have g1 : (to : Int) ≤ (to : Int) + 4 := by omega
      have g2 : (to : Int) + 4 ≤ (l.length : Int) := by omega
      have g3 : (0 : Int) ≤ (to : Int) + 4 := by omega
      have hw : IntKind.i64.wrap ((to : Int) + 4) = (to : Int) + 4 := by rw [IntKind.wrap_i64]; omega
      by_cases h2 : (l.drop to).take (((to : Int) + 4).toNat - to) = f4
      · rw [if_neg (by simpa using h2)] at hR
        have hq : ((l.drop to).take (((to : Int) + 4).toNat - to) == f4) = true := by simpa using h2
        clear h2
        go_enter Try.func36, Try.ntmps36
        go_wp2_with (go_at_call 28; refine (hc _).use ?_)
        go_region_held3 (fun _ => True) (trivial) (first | (go_at_call 31; refine (hcs _).use ?_; intro w2 hb2) | (go_at_call 45; refine (hd _).use ?_; intro w3 hb3))
        go_wp2
        go_ret3
        exact finB hR (below_any (w1 := w2) (Nat.le_refl _) (below_any (w1 := w.drew) (Nat.le_refl _) (Below.refl _ _).drew hb2) hb3) rfl
      · rw [if_pos h2] at hR
        have hq : ((l.drop to).take (((to : Int) + 4).toNat - to) == f4) = false := by simpa using h2
        clear h2
        go_enter Try.func36, Try.ntmps36
        go_wp2_with (go_at_call 28; refine (hc _).use ?_)
        go_region_held3 (fun _ => True) (trivial) (first | (go_at_call 31; refine (hcs _).use ?_; intro w2 hb2) | (go_at_call 45; refine (hd _).use ?_; intro w3 hb3))
        go_wp2
        go_ret3
        exact finB hR (below_any (w1 := w2) (Nat.le_refl _) (below_any (w1 := w.drew) (Nat.le_refl _) (Below.refl _ _).drew hb2) hb3) rfl
  · rw [if_pos h0] at hR
    have h0' : (e == 0) = false := by simpa using h0
    obtain ⟨rfl, rfl⟩ := b2 h0
    clear b1 b2 b3
    go_enter Try.func36, Try.ntmps36
    go_wp2_with (go_at_call 28; refine (hc _).use ?_)
    go_ret3
    exact finB hR (Below.refl _ _) rfl
end Go.Proofs.Ytdgeljfiobmkcaa
