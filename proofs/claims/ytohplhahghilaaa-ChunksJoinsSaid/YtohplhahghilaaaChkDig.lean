import Derived.Test.YtohplhahghilaaaChkC
import Derived.Test.YtohplhahghilaaaSeg1
/-
  Layer 7, the document's: a text's digest: the contract.
-/
set_option linter.unusedVariables false
set_option linter.unusedSimpArgs false
namespace Go.Proofs.Ytohplhahghilaaa
open Go.RowKit
attribute [local go_sem] ByteArray.extract_mk ByteArray.mk_append_mk

theorem news_u8 {W : World} (x : UInt8) {s : Nat} (hs : W.heap.size = s) : ∀ j u, [Value.int .u8 (x.toNat : Nat)][j]? = some u → (W.alloc (.cells #[.int .u8 (x.toNat : Nat)] 5)).cell? ((⟨s, 0, none⟩ : Addr).add j) = some u := by
  subst hs
  exact World.news_of_block (cs := #[.int .u8 (x.toNat : Nat)]) (t := 5) (fr := (0, 0)) (heap_alloc_new W _)
set_option maxHeartbeats 4000000 in
set_option maxRecDepth 100000 in
theorem rdigest7 (s : List UInt8) (w : World) (hs : s.length ≤ 1000000000) : RetB Try.prog 17 #[.string (S s)] w (.int .u64 (digest s : Nat)) := by
  refine RetB.intro fun R hR => ?_
  obtain ⟨i0, hi, hz0, hz1, hz2⟩ := info_parts T.info5
  go_enter Try.func17, Try.ntmps17
  go_wp2_with fail
  go_loopw [3, 4] (fun (v3 v4 : Value) (W : World) => ∃ j : Nat, j ≤ s.length ∧ v4 = .int .i64 ((j : Int) - 1) ∧ W.ownsRow w.heap.size 5 1 v3 (s.length - j) ((s.drop j).reverse.map fun x => Value.int .u8 (x.toNat : Nat)) ∧ Below w.heap.size w W) (fun (v3 v4 : Value) (W : World) => (intOf v4 + 1).toNat)
  case atStart =>
    refine ⟨s.length, Nat.le_refl _, rfl, ?_, below_all (Below.refl _ _)⟩
    rw [Nat.sub_self, List.drop_length]
    exact World.ownsRow_lit (base := w.heap.size) (e := 5) (size := 1) w #[] 0 (Nat.le_refl _) (by unfold maxLen; decide) rfl
  case round =>
    obtain ⟨j, hj, rfl, hown, hnx⟩ := hrel
    cases j with
    | zero =>
      rw [List.drop_zero, Nat.sub_zero] at hown
      have hsum1 := fun W => rsum_any s W (by unfold maxLen; omega)
      have hsum2 := fun W => rsum_any s.reverse W (by rw [List.length_reverse]; unfold maxLen; omega)
      have q1 := sum_bd s
      have q2 := sum_bd s.reverse
      obtain ⟨u, cp, rfl⟩ := own_form hown
      have hcv : ∀ W, Below wr.heap.size wr W → (convert 75 9 (.slice u s.length cp)).run Try.prog W = .ok (.string (S s.reverse)) W := by
        intro W hW
        rcases hown.2 with ⟨h0, h1⟩ | ⟨g, cp', cur, h0, hb, hg, hle, _⟩
        · rw [h0]
          have hr : s.reverse = [] := List.eq_nil_of_length_eq_zero (by rw [List.length_reverse]; exact h1)
          rw [hr]
          exact run_convert_bytes_nil (P := Try.prog) W 75 5 Try.underlying75 Try.underlying5 0 0 9 Try.underlying9
        · simp only [Value.slice.injEq] at h0
          obtain ⟨rfl, _, rfl⟩ := h0
          have h := run_convert_bytes_arg (P := Try.prog) W 75 5 Try.underlying75 Try.underlying5 g 0 s.length cp (s.reverse.map fun x => (x.toNat : Int)) (by simp) (by
            intro i hi
            have hi : i < s.reverse.length := by simpa using hi
            have h1 := hown.cellAt (g := g) i (by simpa using hi)
            have h3 : (s.reverse.map fun x => Value.int .u8 (x.toNat : Nat))[i]? = some (.int .u8 (s.reverse[i].toNat : Nat)) := by rw [List.getElem?_map, List.getElem?_eq_getElem hi]; rfl
            have h1 := h1.trans h3
            have h2 := hW.cell (p := ⟨g, i, none⟩) (cell_lt (b := g) (off := i) h1)
            rw [Nat.zero_add, h2, h1, List.getD_eq_getElem?_getD, List.getElem?_map, List.getElem?_eq_getElem hi]
            rfl) 9 Try.underlying9
          rw [nums_rev] at h
          exact h
      have wx1 : IntKind.u64.wrap (crcSum s : Int) = (crcSum s : Int) := by rw [IntKind.wrap_u64]; omega
      have wx2 : IntKind.u64.wrap (crcSum s.reverse : Int) = (crcSum s.reverse : Int) := by rw [IntKind.wrap_u64]; omega
      have wx3 : IntKind.u64.wrap ((crcSum s : Int) * 4294967296) = (crcSum s : Int) * 4294967296 := by rw [IntKind.wrap_u64]; omega
      have wx4 : IntKind.u64.wrap ((crcSum s : Int) * 4294967296 + (crcSum s.reverse : Int)) = (crcSum s : Int) * 4294967296 + (crcSum s.reverse : Int) := by rw [IntKind.wrap_u64]; omega
      have hdig := Lib.hid (show (digest s : Int) = (crcSum s : Int) * 4294967296 + (crcSum s.reverse : Int) by unfold digest; omega)
      generalize crcSum s = x1 at *
      generalize crcSum s.reverse = x2 at *
      have hcv0 := hcv wr.drew (Below.refl _ _).drew
      clear hown q1 q2 hj hcv
      go_wp2_with fail
      go_region_with (first | (go_at_call_of 51 (Value.string (S s)); refine (hsum1 _).use ?_) | (go_at_call_of 51 (Value.string (S s.reverse)); refine (hsum2 _).use ?_))
      all_goals go_wp2_with fail
      all_goals go_ret
      all_goals exact finB hR hnx.drew (by simp [Act.put, hdig.out, wx4])
    | succ i =>
      have e0 : ((i + 1 : Nat) : Int) - 1 = (i : Int) := by omega
      have hsl : i < s.length := by omega
      have i1 : (0 : Int) ≤ (i : Int) := by omega
      have i2 : (i : Int) < (s.length : Int) := by omega
      have e1 : IntKind.i64.wrap ((i : Int) - 1) = (i : Int) - 1 := by rw [IntKind.wrap_i64]; omega
      have hst := Lib.hid (drop_rev s hsl)
      have hln : s.length - (i + 1) + 1 = s.length - i := by omega
      have HLN := Lib.hid hln
      have zz := hnx.size
      rw [e0]
      have hown2 := World.ownsRow.alloc hown (.cells #[.int .u8 (s[i].toNat : Nat)] 5)
      have hne := news_u8 (W := wr) s[i] rfl
      clear hln e0
      go_wp2_with (at_builtin; refine wpList_append_own_at _ rfl _ _ 75 rfl w.heap.size 5 i0 _ 1 1 Try.underlying75 hi hz0 hz1 hz2 rfl (by decide) _ _ _ rfl hown2 ⟨wr.heap.size, 0, none⟩ 1 1 [.int .u8 (s[i].toNat : Nat)] rfl rfl hne (by simp [Value.oneCell']) (by unfold maxLen; omega) (by omega) (by simp; omega) ?_)
      intro va5 w5 o5 g5 z7 at5
      have G6 : Below w.heap.size w w5 := Kept.below (below_all (o := .cells #[.int .u8 (s[i].toNat : Nat)] 5) hnx) (Kept.ofGrown g5) (by intro x hx; simp only [Option.mem_toList] at hx; exact (hown2.lt x hx).1) (by simp; omega)
      have O6 : w5.ownsRow w.heap.size 5 1 va5 (s.length - i) ((s.drop i).reverse.map fun x => Value.int .u8 (x.toNat : Nat)) := by
        rw [← HLN.out, ← hst.out, List.map_append]
        simpa using o5
      clear g5 z7 at5 o5 hown2 hne
      go_wp2_with fail
      go_roundw
      case rel => exact ⟨i, by omega, rfl, O6, G6⟩
      case measure => first | (simp [intOf]; done) | (simp [intOf]; omega)
end Go.Proofs.Ytohplhahghilaaa
