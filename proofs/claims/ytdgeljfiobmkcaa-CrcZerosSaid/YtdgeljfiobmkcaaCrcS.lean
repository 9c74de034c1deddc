/-
  Layer 2: the reference's bytes of a sum, its frames: contracts.
-/
import Derived.Test.YtdgeljfiobmkcaaCrcR
import Derived.Test.YtdgeljfiobmkcaaCrcB
set_option linter.unusedVariables false
set_option linter.unusedSimpArgs false
namespace Go.Proofs.Ytdgeljfiobmkcaa
open Go.RowKit
attribute [local go_sem] ByteArray.extract_mk ByteArray.mk_append_mk

theorem conv4 (w : World) (x0 x1 x2 x3 : Int) : (convert 48 9 (.slice (some ⟨w.heap.size, 0, none⟩) 4 4)).run Try.prog (w.alloc (.cells #[.int .u8 x0, .int .u8 x1, .int .u8 x2, .int .u8 x3] 5)) =
    .ok (.string (strOfNums [x0, x1, x2, x3])) (w.alloc (.cells #[.int .u8 x0, .int .u8 x1, .int .u8 x2, .int .u8 x3] 5)) :=
  run_convert_bytes_arg (P := Try.prog) (w.alloc (.cells #[.int .u8 x0, .int .u8 x1, .int .u8 x2, .int .u8 x3] 5)) 48 5 Try.underlying48 Try.underlying5 w.heap.size 0 4 4 [x0, x1, x2, x3] rfl (by
    intro i hi
    rw [Nat.zero_add, World.cell?_alloc_new]
    rcases (by omega : i = 0 ∨ i = 1 ∨ i = 2 ∨ i = 3) with rfl | rfl | rfl | rfl <;> rfl) 9 Try.underlying9
theorem rfour_any (n : Nat) (w : World) (hn : n < 4294967296) : RetB Try.prog 46 #[.int .u32 (n : Nat)] w (.string (S (four n))) := by
  refine RetB.intro fun R hR => ?_
  have hcv := conv4
  have hs := quadNs_str hn
  have hq : quadNs n = [(n : Int) % 256, (n : Int) / 256 % 256, (n : Int) / 65536 % 256, (n : Int) / 16777216] := by
    simp only [quadNs]; rw [show n / 16777216 % 256 = n / 16777216 from Nat.mod_eq_of_lt (by omega)]; rfl
  rw [← hs, hq] at hR
  clear hs hq
  go_enter Try.func46, Try.ntmps46
  go_wp2
  exact finB hR ((Below.refl _ _).alloc (Nat.le_refl _) _) rfl
theorem rframe_any (l : List UInt8) (w : World) (hl : l.length ≤ 9000000000000000000) : RetB Try.prog 39 #[.string (S l)] w (.string (S (crcFrame l))) := by
  refine RetB.intro fun R hR => ?_
  have hc := fun w => rsum_any l w (by unfold maxLen; omega)
  have hb := sum_bd l
  have hd := fun w => rfour_any (crcSum l) w hb
  have ht := fun w => rtext_any l w hl
  have hv := vtxt_le l
  have h4 := four_len (crcSum l)
  have hf : crcFrame l = vtxt l ++ four (crcSum l) := rfl
  rw [hf, ← S_append] at hR
  clear hf
  generalize four (crcSum l) = f4 at *
  generalize vtxt l = v at *
  have hle : ¬ 9223372036854775807 < v.length + f4.length := by omega
  have h4 := Lib.hid h4
  go_enter Try.func39, Try.ntmps39
  go_wp2_with (first | (go_at_call 47; refine (ht _).use ?_; intro w1 hb1) | (go_at_call 32; refine (hc _).use ?_) | (go_at_call 46; refine (hd _).use ?_; intro w3 hb3))
  exact finB hR (below_any (Nat.le_refl _) hb1 hb3) rfl

set_option maxHeartbeats 1000000 in
set_option maxRecDepth 100000 in
theorem rcut_any (l : List UInt8) (p most : Int) (w : World) (hl : l.length ≤ 9000000000000000000) (hm : most ≤ 9223372036854775807) :
    RetB Try.prog 37 #[.string (S l), .int .i64 p, .int .i64 most] w (.tuple #[.string (S (crcCut l p most).1), .int .i64 (crcCut l p most).2.1, .int .i64 (crcCut l p most).2.2]) := by
  refine RetB.intro fun R hR => ?_
  obtain ⟨t, to, e, hv⟩ : ∃ t to e, vtext l p most = (t, to, e) := ⟨_, _, _, rfl⟩
  obtain ⟨b1, b2, b3⟩ := vtext_bd hv
  have hc := fun w => rvtext_eq hv w (by unfold maxLen; omega) hm
  unfold crcCut at hR
  rw [hv] at hR
  simp only at hR
  clear hv hm
  by_cases h0 : e = 0
  · subst h0
    obtain ⟨c1, c2, c3, c4, c5, c6⟩ := b1 rfl
    clear b1 b2 b3
    rw [if_neg (by decide)] at hR
    obtain ⟨to, rfl⟩ := Int.eq_ofNat_of_zero_le c3
    by_cases h1 : (l.length : Int) - to < 4
    · rw [if_pos h1] at hR
      go_enter Try.func37, Try.ntmps37
      go_wp2_with (go_at_call 29; refine (hc _).use ?_)
      go_ret3
      exact finB hR (Below.refl _ _) rfl
    · rw [if_neg h1, Int.toNat_natCast] at hR
      have htl : t.length ≤ l.length := by omega
      have hcs := fun w => rsum_any t w (by unfold maxLen; omega)
      have hb := sum_bd t
      have hd := fun w => rfour_any (crcSum t) w hb
      have hsl : (l.drop to).take 4 = (l.drop to).take (((to : Int) + 4).toNat - to) := by rw [show ((to : Int) + 4).toNat - to = 4 by omega]
      rw [hsl] at hR
      clear hsl
      generalize four (crcSum t) = f4 at *
      have h1b : decide ((l.length : Int) - to < 4) = false := decide_eq_false h1
      have g0 : (0 : Int) ≤ (to : Int) := by omega
      have g1 : (to : Int) ≤ (to : Int) + 4 := by omega
      have g2 : (to : Int) + 4 ≤ (l.length : Int) := by omega
      have g3 : (0 : Int) ≤ (to : Int) + 4 := by omega
      have hw : IntKind.i64.wrap ((to : Int) + 4) = (to : Int) + 4 := by rw [IntKind.wrap_i64]; omega
      by_cases h2 : (l.drop to).take (((to : Int) + 4).toNat - to) = f4
      · rw [if_neg (by simpa using h2)] at hR
        have hq : ((l.drop to).take (((to : Int) + 4).toNat - to) == f4) = true := by simpa using h2
        clear h2
        go_enter Try.func37, Try.ntmps37
        go_wp2_with (go_at_call 29; refine (hc _).use ?_)
        go_region_held3 (fun _ => True) (trivial) (first | (go_at_call 32; refine (hcs _).use ?_) | (go_at_call 46; refine (hd _).use ?_; intro w3 hb3))
        go_wp2
        go_ret3
        exact finB hR (below_any (w1 := w.drew) (Nat.le_refl _) (Below.refl _ _).drew hb3) rfl
      · rw [if_pos h2] at hR
        have hq : ((l.drop to).take (((to : Int) + 4).toNat - to) == f4) = false := by simpa using h2
        clear h2
        go_enter Try.func37, Try.ntmps37
        go_wp2_with (go_at_call 29; refine (hc _).use ?_)
        go_region_held3 (fun _ => True) (trivial) (first | (go_at_call 32; refine (hcs _).use ?_) | (go_at_call 46; refine (hd _).use ?_; intro w3 hb3))
        go_wp2
        go_ret3
        exact finB hR (below_any (w1 := w.drew) (Nat.le_refl _) (Below.refl _ _).drew hb3) rfl
  · rw [if_pos h0] at hR
    have h0' : (e == 0) = false := by simpa using h0
    obtain ⟨rfl, rfl⟩ := b2 h0
    clear b1 b2 b3
    go_enter Try.func37, Try.ntmps37
    go_wp2_with (go_at_call 29; refine (hc _).use ?_)
    go_ret3
    exact finB hR (Below.refl _ _) rfl
end Go.Proofs.Ytdgeljfiobmkcaa
