import Derived.Test.YtohplhahghilaaaCrcP
import Derived.Test.YtohplhahghilaaaVarX
import Derived.LoopN
import Derived.Laws.Rows
set_option linter.unusedVariables false
set_option linter.unusedSimpArgs false
namespace Go.Proofs.Ytohplhahghilaaa
open Go.RowKit

theorem row_any (n : Nat) (w : World) (h : n < 4294967296) : Ret Try.prog 91 #[.int .u32 n] w (.int .u32 (bitN 4 n : Nat)) := by
  refine Ret.intro fun R hR => ?_
  go_enter Try.func91, Try.ntmps91
  go_wp2
  go_loop [0, 3] (fun (v0 v3 : Value) => ∃ k m : Nat, k ≤ 4 ∧ m = bitN k n ∧ v0 = .int .u32 (m : Nat) ∧ v3 = .int .i64 (k : Int)) (fun (v0 v3 : Value) => (4 - intOf v3).toNat)
  case atStart => exact ⟨0, n, by omega, rfl, rfl, rfl⟩
  case round =>
    obtain ⟨k, m, hk, hm, rfl, rfl⟩ := hrel
    by_cases hlt : k < 4
    · have hb : m < 4294967296 := hm ▸ bitN_bd h k
      have hc := bit1_code hb
      rw [IntKind.wrap_u32', Int.zero_sub] at hc
      have hn := Lib.hid (show bit1 m = bitN (k + 1) n by rw [hm]; rfl)
      clear hm
      go_wp2
      go_round
      case rel => exact ⟨k + 1, _, by omega, hn.out, rfl, by go_num⟩
      case measure => simp [intOf]; omega
    · have hk4 : k = 4 := by omega
      subst hk4
      have hn := Lib.hid hm
      clear hm
      go_wp2
      exact fin hR (by rw [hn.out])
def rowsTo (k : Nat) : List Value := (List.range 16).map fun i => .int .u32 ((if i < k then bitN 4 i else 0 : Nat) : Int)
theorem rowsTo_len (k : Nat) : (rowsTo k).length = 16 := rfl
theorem rowsTo_set (k : Nat) (h : k < 16) : (rowsTo k).set k (.int .u32 (bitN 4 k : Nat)) = rowsTo (k + 1) := by
  apply List.ext_getElem
  · simp [rowsTo]
  · intro i h1 h2
    simp only [rowsTo, List.getElem_set, List.getElem_map, List.getElem_range]
    by_cases e : k = i
    · subst e; simp
    · rw [if_neg e]
      by_cases e2 : i < k
      · rw [if_pos e2, if_pos (by omega)]
      · rw [if_neg e2, if_neg (by omega)]
theorem heap_first (w : World) (o o2 : Obj) : ((w.alloc o).alloc o2).heap[w.heap.size]? = some o := by
  simp only [World.alloc]
  rw [Array.getElem?_push_lt (by simp), Array.getElem_push_eq]
theorem rows_any (w : World) : RetB Try.prog 87 #[] w (.agg (rowsTo 16).toArray) := by
  refine RetB.intro fun R hR => ?_
  go_enter Try.func87, Try.ntmps87
  go_wp2
  go_loopw [4] (fun (v4 : Value) (w1 : World) => ∃ k : Nat, k ≤ 16 ∧ v4 = .int .i64 (k : Int) ∧ w1 = (w.alloc (.cells (rowsTo 0).toArray 142)).alloc (.cells (rowsTo k).toArray 142)) (fun (v4 : Value) (w1 : World) => (16 - intOf v4).toNat)
  case atStart => exact ⟨0, by omega, rfl, rfl⟩
  case round =>
    obtain ⟨k, hk, rfl, rfl⟩ := hrel
    by_cases hlt : k < 16
    · have hl : (rowsTo k).length = 16 := rfl
      go_wp2_with (go_at_call 91; refine (row_any _ _ (by omega)).use ?_)
      go_roundw
      case rel => exact ⟨k + 1, by omega, by go_num, by rw [rowsTo_set k hlt]⟩
      case measure => simp [intOf]; omega
    · have hk16 : k = 16 := by omega
      subst hk16
      obtain ⟨a0, a1, a2, a3, a4, a5, a6, a7, a8, a9, a10, a11, a12, a13, a14, a15, ha⟩ : ∃ a0 a1 a2 a3 a4 a5 a6 a7 a8 a9 a10 a11 a12 a13 a14 a15 : Int, rowsTo 16 = [.int .u32 a0, .int .u32 a1, .int .u32 a2, .int .u32 a3, .int .u32 a4, .int .u32 a5, .int .u32 a6, .int .u32 a7, .int .u32 a8, .int .u32 a9, .int .u32 a10, .int .u32 a11, .int .u32 a12, .int .u32 a13, .int .u32 a14, .int .u32 a15] := ⟨_, _, _, _, _, _, _, _, _, _, _, _, _, _, _, _, rfl⟩
      have hz : rowsTo 0 = [.int .u32 0, .int .u32 0, .int .u32 0, .int .u32 0, .int .u32 0, .int .u32 0, .int .u32 0, .int .u32 0, .int .u32 0, .int .u32 0, .int .u32 0, .int .u32 0, .int .u32 0, .int .u32 0, .int .u32 0, .int .u32 0] := rfl
      rw [ha] at hR ⊢
      rw [hz]
      clear ha hz hlt
      go_wp2
      try simp only [Exit.inBlock, Exit.then]
      refine bodyPost_ret (results_cell_row rfl _ _ w.heap.size 142 _ (0, 0) (.array 16 102) rfl (heap_first _ _ _) (by kernel_rfl) rfl (by kernel_rfl)) rfl ?_
      exact finB hR (((Below.refl _ _).alloc (Nat.le_refl _) _).alloc (by simp) _) rfl
theorem rowsTo_get (i : Nat) (h : i < 16) : (rowsTo 16)[i]? = some (.int .u32 (bitN 4 i : Nat)) := by
  simp [rowsTo, h]
set_option maxRecDepth 100000 in
theorem more_any (s : Nat) (l : List UInt8) (w : World) (hs : s < 4294967296) (hl : l.length ≤ maxLen) : RetB Try.prog 75 #[.int .u32 (s : Nat), .string (S l)] w (.int .u32 (crcMore s l : Nat)) := by
  refine RetB.intro fun R hR => ?_
  have hl' := hl
  unfold maxLen at hl'
  have hn : bits .xor .u32 IntKind.u32.max (s : Int) = ((4294967295 - s : Nat) : Int) := not_code hs
  obtain ⟨c0, hc0⟩ : ∃ c, c = 4294967295 - s := ⟨_, rfl⟩
  have hc0b : c0 < 4294967296 := by omega
  rw [← hc0] at hn
  have hcm : crcMore s l = 4294967295 - crcFold c0 l := by rw [hc0]; rfl
  rw [hcm] at hR
  clear hcm hc0 hl
  obtain ⟨a0, a1, a2, a3, a4, a5, a6, a7, a8, a9, a10, a11, a12, a13, a14, a15, ha⟩ : ∃ a0 a1 a2 a3 a4 a5 a6 a7 a8 a9 a10 a11 a12 a13 a14 a15 : Int, rowsTo 16 = [.int .u32 a0, .int .u32 a1, .int .u32 a2, .int .u32 a3, .int .u32 a4, .int .u32 a5, .int .u32 a6, .int .u32 a7, .int .u32 a8, .int .u32 a9, .int .u32 a10, .int .u32 a11, .int .u32 a12, .int .u32 a13, .int .u32 a14, .int .u32 a15] := ⟨_, _, _, _, _, _, _, _, _, _, _, _, _, _, _, _, rfl⟩
  have hr := fun w => (rows_any w).cast (show Value.agg (rowsTo 16).toArray = .agg #[.int .u32 a0, .int .u32 a1, .int .u32 a2, .int .u32 a3, .int .u32 a4, .int .u32 a5, .int .u32 a6, .int .u32 a7, .int .u32 a8, .int .u32 a9, .int .u32 a10, .int .u32 a11, .int .u32 a12, .int .u32 a13, .int .u32 a14, .int .u32 a15] by rw [ha])
  have ha' := Lib.hid ha
  clear ha
  go_enter Try.func75, Try.ntmps75
  go_wp2_with (go_at_call 87; refine (hr _).use ?_; intro w1 hb1)
  rw [← ha'.out]
  go_loop [6, 13] (fun (v6 v13 : Value) => ∃ k : Nat, k ≤ l.length ∧ v13 = .int .i64 (k : Int) ∧ v6 = .int .u32 (crcFold c0 (l.take k) : Nat)) (fun (v6 v13 : Value) => (l.length - intOf v13).toNat)
  case atStart => exact ⟨0, by omega, rfl, by simp [crcFold]⟩
  case round =>
    obtain ⟨k, hk, rfl, rfl⟩ := hrel
    by_cases hlt : k < l.length
    · have hf : crcFold c0 (l.take k) < 4294967296 := fold_bd hc0b
      obtain ⟨c, hc⟩ : ∃ c, c = crcFold c0 (l.take k) := ⟨_, rfl⟩
      rw [← hc] at hf ⊢
      have hlS : k < (S l).size := by rw [S_size]; exact hlt
      have hb : ((S l)[k]'hlS).toNat < 256 := UInt8.toNat_lt _
      have hx := u32_xor_nat c ((S l)[k]'hlS).toNat hf (by omega)
      have hmb := xor_bd hf (show ((S l)[k]'hlS).toNat < 4294967296 by omega)
      have he := Lib.hid (show by8 c ((S l)[k]'hlS).toNat = crcFold c0 (l.take (k + 1)) by
        rw [List.take_succ_eq_append_getElem hlt, fold_snoc, ← hc]; rfl)
      have h8 := by8_nib c ((S l)[k]'hlS).toNat
      obtain ⟨m, hm⟩ : ∃ m, m = c ^^^ ((S l)[k]'hlS).toNat := ⟨_, rfl⟩
      rw [← hm] at hx hmb h8
      clear hm hc
      have h4b : bitN 4 (m % 16) < 4294967296 := bitN_bd (by omega) 4
      have hx2 := u32_xor_nat (m / 16) (bitN 4 (m % 16)) (by omega) h4b
      have hdb := xor_bd (show m / 16 < 4294967296 by omega) h4b
      obtain ⟨d, hd⟩ : ∃ d, d = m / 16 ^^^ bitN 4 (m % 16) := ⟨_, rfl⟩
      rw [← hd] at hx2 hdb h8
      have hx3 := u32_xor_nat (d / 16) (bitN 4 (d % 16)) (by omega) (bitN_bd (by omega) 4)
      have h8 : by8 c ((S l)[k]'hlS).toNat = d / 16 ^^^ bitN 4 (d % 16) := h8
      rw [← h8, he.out] at hx3
      rw [show ((m / 16 : Nat) : Int) = (m : Int) / 16 by omega] at hx2
      rw [show ((d / 16 : Nat) : Int) = (d : Int) / 16 by omega] at hx3
      clear hd h8 he
      have hlen : (rowsTo 16).length = 16 := rfl
      have hg1 := rowsTo_get (m % 16) (by omega)
      have hg2 := rowsTo_get (d % 16) (by omega)
      go_wp2
      go_round
      case rel => exact ⟨k + 1, by omega, by go_num, rfl⟩
      case measure => simp [intOf]; omega
    · have hkl : k = l.length := by omega
      subst hkl
      rw [List.take_length]
      have hf := fold_bd (l := l) hc0b
      have hnn : bits .xor .u32 IntKind.u32.max (crcFold c0 l : Int) = ((4294967295 - crcFold c0 l : Nat) : Int) := not_code hf
      obtain ⟨z, hz⟩ : ∃ z, z = ((4294967295 - crcFold c0 l : Nat) : Int) := ⟨_, rfl⟩
      rw [← hz] at hR hnn
      go_wp2
      exact finB hR (hb1.alloc hb1.size _) (by rw [hz])
end Go.Proofs.Ytohplhahghilaaa
