/-
  The walk of CrcSpoilt.
-/
import Derived.Test.YtdgeljfiobmkcaaCrcQ
import Derived.Deep.RegionHeld3
set_option linter.unusedVariables false
set_option linter.unusedSimpArgs false
namespace Go.Proofs.Ytdgeljfiobmkcaa.crcSpoilt
open Go.RowKit
attribute [local go_sem] ByteArray.extract_mk ByteArray.mk_append_mk

theorem set_parts (y : UInt8) : ∀ {l : List UInt8} {i : Nat}, i < l.length → l.set i y = l.take i ++ y :: l.drop (i + 1)
  | [], _, h => by simp at h
  | a :: l, 0, _ => by simp
  | a :: l, i + 1, h => by
    have := set_parts y (l := l) (i := i) (by simpa using h)
    simp [this]
/-! The plain law: a frame with one byte turned, a frame cut short. -/
theorem vtxt_small {l : List UInt8} (h : l.length < 128) : vtxt l = UInt8.ofNat l.length :: l := by
  unfold vtxt vput vputF
  rw [if_pos h]; rfl
theorem frame_small {l : List UInt8} (h : l.length < 128) : crcFrame l = UInt8.ofNat l.length :: (l ++ four (crcSum l)) := by
  unfold crcFrame
  rw [vtxt_small h]; rfl
theorem cut_bad {l f : List UInt8} (h : l.length ≤ 100) (h4 : f.length = 4) (hf : f ≠ four (crcSum l)) : crcCut (vtxt l ++ f) 0 600 = ([], 0, 21) := by
  have hv := vtext_put [] l f 600 (by omega) (by omega)
  simp only [List.nil_append, List.length_nil] at hv
  unfold crcCut
  rw [show ((0 : Nat) : Int) = 0 from rfl] at hv
  rw [hv]
  simp only
  rw [if_neg (by decide), if_neg (by rw [List.length_append]; omega)]
  have e : ((0 : Int) + ((vtxt l).length : Int)).toNat = (vtxt l).length := by omega
  rw [e, List.drop_left, List.take_of_length_le (by omega), if_pos hf]
theorem cut_short {l : List UInt8} (h : l.length ≤ 100) (k : Nat) (hk : k < (crcFrame l).length) : (crcCut ((crcFrame l).take k) 0 600).2.2 ≠ 0 := by
  by_cases h1 : k < (vtxt l).length
  · have e : (crcFrame l).take k = (vtxt l).take k := by unfold crcFrame; rw [List.take_append_of_le_length (by omega)]
    have hv := vtext_cut l k (by omega) 600 (by omega) h1
    rw [e, crcCut_err hv (by decide)]
    decide
  · have e : (crcFrame l).take k = vtxt l ++ (four (crcSum l)).take (k - (vtxt l).length) := by
      unfold crcFrame
      rw [List.take_append, List.take_of_length_le (by omega)]
    have hv := vtext_put [] l ((four (crcSum l)).take (k - (vtxt l).length)) 600 (by omega) (by omega)
    simp only [List.nil_append, List.length_nil] at hv
    rw [show ((0 : Nat) : Int) = 0 from rfl] at hv
    rw [e]
    unfold crcCut
    rw [hv]
    simp only
    have hk4 : k < (vtxt l).length + 4 := by
      have : (crcFrame l).length = (vtxt l).length + 4 := by simp [crcFrame, four_len]
      omega
    rw [if_neg (by decide), if_pos (by rw [List.length_append, List.length_take, four_len]; omega)]
    decide
theorem cut_turned {l : List UInt8} (h : l.length ≤ 100) (k : Nat) (y : UInt8) (hk0 : 0 < k) (hk : k < (crcFrame l).length) (hy : (crcFrame l)[k] ≠ y) :
    crcCut ((crcFrame l).take k ++ y :: (crcFrame l).drop (k + 1)) 0 600 = ([], 0, 21) := by
  rw [← set_parts y hk]
  obtain ⟨i, rfl⟩ : ∃ i, k = i + 1 := ⟨k - 1, by omega⟩
  have hfr := frame_small (l := l) (by omega)
  have hlen : (crcFrame l).length = l.length + 5 := by rw [hfr]; simp [four_len]
  have hget : (crcFrame l)[i + 1] = (l ++ four (crcSum l))[i]'(by rw [List.length_append, four_len]; omega) := by simp only [hfr, List.getElem_cons_succ]
  rw [hget] at hy
  rw [hfr, List.set_cons_succ]
  by_cases h1 : i < l.length
  · rw [List.set_append_left _ _ h1]
    rw [List.getElem_append_left h1] at hy
    have hl' : (l.set i y).length = l.length := List.length_set
    have e : UInt8.ofNat l.length :: (l.set i y ++ four (crcSum l)) = vtxt (l.set i y) ++ four (crcSum l) := by
      rw [vtxt_small (by omega), hl']; rfl
    rw [e]
    refine cut_bad (by omega) (four_len _) fun hc => ?_
    have hs := four_inj (sum_bd _) (sum_bd _) hc
    have e1 : l = l.take i ++ l[i] :: l.drop (i + 1) := by rw [← List.drop_eq_getElem_cons h1, List.take_append_drop]
    have e2 : l.set i y = l.take i ++ y :: l.drop (i + 1) := set_parts y h1
    rw [e2] at hs
    have hs2 : crcMore 0 (l.take i ++ l[i] :: l.drop (i + 1)) = crcMore 0 (l.take i ++ y :: l.drop (i + 1)) := by
      rw [← e1]; exact hs
    exact hy (sum_apart (by decide) _ _ hs2)
  · rw [List.set_append_right _ _ (by omega)]
    rw [List.getElem_append_right (by omega)] at hy
    have e : UInt8.ofNat l.length :: (l ++ (four (crcSum l)).set (i - l.length) y) = vtxt l ++ (four (crcSum l)).set (i - l.length) y := by
      rw [vtxt_small (by omega)]; rfl
    rw [e]
    refine cut_bad (by omega) (by rw [List.length_set]; rfl) fun hc => ?_
    have hi4 : i - l.length < (four (crcSum l)).length := by rw [four_len]; omega
    have := congrArg (fun t => t[i - l.length]?) hc
    simp only [List.getElem?_set_self hi4, List.getElem?_eq_getElem hi4, Option.some.injEq] at this
    exact hy this.symm
theorem below_all {w W : World} {o : Obj} (h : Below w.heap.size w W) : Below w.heap.size w (W.alloc o) := h.alloc h.size o
theorem convAt (x : Nat) (W : World) (g : Nat) (h : W.cell? ⟨g, 0, none⟩ = some (.int .u8 x)) :
    (convert 48 9 (.slice (some ⟨g, 0, none⟩) 1 1)).run Try.prog W = .ok (.string (S [UInt8.ofNat x])) W := by
  have := conv1 (P := Try.prog) Try.underlying48 Try.underlying5 Try.underlying9 W g 1 x h
  rwa [strOfNums_one] at this
theorem turn_bit (x j : Nat) (hx : x < 256) (hj : j < 8) : x ^^^ 2 ^ j < 256 ∧ x ^^^ 2 ^ j ≠ x := by
  have hp : 2 ^ j < 2 ^ 8 := Nat.pow_lt_pow_right (by decide) hj
  have hb : x ^^^ 2 ^ j < 2 ^ 8 := Nat.xor_lt_two_pow (by omega) hp
  refine ⟨by omega, fun e => ?_⟩
  have := xor_left (a := x) (b := 2 ^ j) (c := 0) (by rw [e, Nat.xor_zero])
  have := Nat.two_pow_pos j
  omega
set_option maxHeartbeats 4000000 in
set_option maxRecDepth 100000 in
theorem walk (s : List UInt8) (p bit : Int) (hs : s.length ≤ maxLen) (hp : -9223372036854775808 ≤ p ∧ p ≤ 9223372036854775807) (hbit : -9223372036854775808 ≤ bit ∧ bit ≤ 9223372036854775807) (w : World) :
    RetB Try.prog 14 #[.string (S s), .int .i64 p, .int .i64 bit] w (.bool true) := by
  refine RetB.intro fun R hR => ?_
  unfold maxLen at hs
  have q1 : ((min (s.length : Int) 100).toNat) = min s.length 100 := by omega
  obtain ⟨l, hl⟩ : ∃ l, s.take (min s.length 100) = l := ⟨_, rfl⟩
  have hll : l.length ≤ 100 := by rw [← hl, List.length_take]; omega
  obtain ⟨q, hq⟩ : ∃ q : Nat, bits .and .i64 p 65535 = (q : Int) := ⟨_, and_low p 65535 16 rfl (by omega)⟩
  obtain ⟨j, hj, hj8⟩ : ∃ j : Nat, bits .and .i64 bit 7 = (j : Int) ∧ j < 8 := ⟨_, and_low bit 7 3 rfl (by omega), Nat.mod_lt _ (by decide)⟩
  have hfl : (crcFrame l).length = l.length + 5 := by rw [frame_small (by omega)]; simp [four_len]
  obtain ⟨k, hk0⟩ : ∃ k, k = 1 + q % ((crcFrame l).length - 1) := ⟨_, rfl⟩
  have hkb : 0 < k ∧ k < (crcFrame l).length := by
    have := Nat.mod_lt q (show 0 < (crcFrame l).length - 1 by omega)
    omega
  obtain ⟨hk1, hk2⟩ := hkb
  have c1 := fun w => frame_any l w (by omega)
  have hy0 := turn_bit ((crcFrame l)[k]).toNat j (UInt8.toNat_lt _) hj8
  obtain ⟨y, hy⟩ : ∃ y, y = ((crcFrame l)[k]).toNat ^^^ 2 ^ j := ⟨_, rfl⟩
  rw [← hy] at hy0
  have hyn : (crcFrame l)[k] ≠ UInt8.ofNat y := by
    intro e
    have := congrArg UInt8.toNat e
    rw [UInt8.toNat_ofNat'] at this
    omega
  have x1 := cut_turned hll k (UInt8.ofNat y) hk1 hk2 hyn
  obtain ⟨t3, e3, x2⟩ : ∃ t e, crcCut ((crcFrame l).take k) 0 600 = (t.1, t.2, e) := ⟨((crcCut ((crcFrame l).take k) 0 600).1, (crcCut ((crcFrame l).take k) 0 600).2.1), _, rfl⟩
  have x3 := cut_short hll k hk2
  rw [x2] at x3
  have x4 : (e3 != 0) = true := by simpa using x3
  have x3 : (e3 == 0) = false := by simpa using x3
  have c2 := fun w => cut_eq x1 w (by simp only [List.length_append, List.length_take, List.length_cons, List.length_drop]; omega) (by decide)
  have c3 := fun w => cut_eq x2 w (by rw [List.length_take]; omega) (by decide)
  clear x1 x2 hyn
  have hx0 := u8_xor_nat ((crcFrame l)[k]).toNat (2 ^ j) (UInt8.toNat_lt _) (Nat.pow_lt_pow_right (by decide) hj8 : 2 ^ j < 2 ^ 8)
  rw [← hy] at hx0
  obtain ⟨z, hz⟩ : ∃ z : Int, z = ((2 ^ j : Nat) : Int) := ⟨_, rfl⟩
  rw [← hz] at hx0
  obtain ⟨hyb, _⟩ := hy0
  clear hy
  generalize crcFrame l = f at *
  have hkm : (1 : Int) + (bits .and .i64 p 65535).tmod ((f.length : Int) - 1) = (k : Int) := by
    obtain ⟨m, hm⟩ : ∃ m, f.length = m + 1 := ⟨f.length - 1, by omega⟩
    rw [hm, Nat.add_sub_cancel] at hk0
    rw [hq, hm, show (((m + 1 : Nat) : Int) - 1) = (m : Int) by omega, Int.tmod_eq_emod_of_nonneg (by omega), hk0, Int.natCast_add, Int.natCast_emod]; rfl
  have hkw : IntKind.i64.wrap ((1 : Int) + (bits .and .i64 p 65535).tmod ((f.length : Int) - 1)) = (k : Int) := by rw [hkm, IntKind.wrap_i64]; omega
  have hne : ((f.length : Int) == (l.length : Int) + 5) = true := by simp; omega
  have hf1 : 5 ≤ f.length := by omega
  have hf2 : f.length ≤ 105 := by omega
  clear hq hk0
  have hfl' := Lib.hid hfl
  clear hfl
  have hkS : k < (S f).size := by rw [S_size]; exact hk2
  have hx : bits .xor .u8 (((S f)[k]'hkS).toNat : Int) z = (y : Int) := hx0
  clear hx0
  have cY := convAt y
  have g0 : (0 : Int) ≤ (k : Int) := by omega
  have g1 : (k : Int) ≤ (f.length : Int) := by omega
  have g2 : (k : Int) + 1 ≤ (f.length : Int) := by omega
  have g3 : (k : Int) < (f.length : Int) := by omega
  have hw : IntKind.i64.wrap ((k : Int) + 1) = (k : Int) + 1 := by rw [IntKind.wrap_i64]; omega
  have g4 : (0 : Int) ≤ (k : Int) + 1 := by omega
  have hdr : List.take (f.length - (k + 1)) (List.drop (k + 1) f) = f.drop (k + 1) := List.take_of_length_le (by rw [List.length_drop]; omega)
  rw [← hdr] at c2
  clear hdr
  rcases (by omega : j = 0 ∨ j = 1 ∨ j = 2 ∨ j = 3 ∨ j = 4 ∨ j = 5 ∨ j = 6 ∨ j = 7) with rfl | rfl | rfl | rfl | rfl | rfl | rfl | rfl
  · obtain rfl : z = 1 := hz
    have hx : bits .xor .u8 (((S f)[k]'hkS).toNat : Int) (IntKind.u8.wrap 1) = (y : Int) := hx
    go_enter Try.func14, Try.ntmps14
    go_wp2_with fail
    refine (c1 _).use ?_
    intro w1 hb1
    go_wp2_with fail
    refine wp_region_noPanic ?_
    go_region_with (fail)
    all_goals refine NoPanic.normal ?_
    go_wp2_with fail
    refine (c2 _).use ?_
    intro w2 hb2
    go_wp2_with fail
    refine (c3 _).use ?_
    intro w3 hb3
    go_wp2_with fail
    refine (fixed2 _).use ?_
    intro w4 hb4
    go_wp2_with fail
    exact finB hR (by repeat (first | assumption | exact Below.refl _ _ | refine below_all ?_ | refine below_any (Nat.le_refl _) ?_ (by assumption) | refine Below.drew ?_)) rfl
  · obtain rfl : z = 2 := hz
    have hx : bits .xor .u8 (((S f)[k]'hkS).toNat : Int) (IntKind.u8.wrap 2) = (y : Int) := hx
    go_enter Try.func14, Try.ntmps14
    go_wp2_with fail
    refine (c1 _).use ?_
    intro w1 hb1
    go_wp2_with fail
    refine wp_region_noPanic ?_
    go_region_with (fail)
    all_goals refine NoPanic.normal ?_
    go_wp2_with fail
    refine (c2 _).use ?_
    intro w2 hb2
    go_wp2_with fail
    refine (c3 _).use ?_
    intro w3 hb3
    go_wp2_with fail
    refine (fixed2 _).use ?_
    intro w4 hb4
    go_wp2_with fail
    exact finB hR (by repeat (first | assumption | exact Below.refl _ _ | refine below_all ?_ | refine below_any (Nat.le_refl _) ?_ (by assumption) | refine Below.drew ?_)) rfl
  · obtain rfl : z = 4 := hz
    have hx : bits .xor .u8 (((S f)[k]'hkS).toNat : Int) (IntKind.u8.wrap 4) = (y : Int) := hx
    go_enter Try.func14, Try.ntmps14
    go_wp2_with fail
    refine (c1 _).use ?_
    intro w1 hb1
    go_wp2_with fail
    refine wp_region_noPanic ?_
    go_region_with (fail)
    all_goals refine NoPanic.normal ?_
    go_wp2_with fail
    refine (c2 _).use ?_
    intro w2 hb2
    go_wp2_with fail
    refine (c3 _).use ?_
    intro w3 hb3
    go_wp2_with fail
    refine (fixed2 _).use ?_
    intro w4 hb4
    go_wp2_with fail
    exact finB hR (by repeat (first | assumption | exact Below.refl _ _ | refine below_all ?_ | refine below_any (Nat.le_refl _) ?_ (by assumption) | refine Below.drew ?_)) rfl
  · obtain rfl : z = 8 := hz
    have hx : bits .xor .u8 (((S f)[k]'hkS).toNat : Int) (IntKind.u8.wrap 8) = (y : Int) := hx
    go_enter Try.func14, Try.ntmps14
    go_wp2_with fail
    refine (c1 _).use ?_
    intro w1 hb1
    go_wp2_with fail
    refine wp_region_noPanic ?_
    go_region_with (fail)
    all_goals refine NoPanic.normal ?_
    go_wp2_with fail
    refine (c2 _).use ?_
    intro w2 hb2
    go_wp2_with fail
    refine (c3 _).use ?_
    intro w3 hb3
    go_wp2_with fail
    refine (fixed2 _).use ?_
    intro w4 hb4
    go_wp2_with fail
    exact finB hR (by repeat (first | assumption | exact Below.refl _ _ | refine below_all ?_ | refine below_any (Nat.le_refl _) ?_ (by assumption) | refine Below.drew ?_)) rfl
  · obtain rfl : z = 16 := hz
    have hx : bits .xor .u8 (((S f)[k]'hkS).toNat : Int) (IntKind.u8.wrap 16) = (y : Int) := hx
    go_enter Try.func14, Try.ntmps14
    go_wp2_with fail
    refine (c1 _).use ?_
    intro w1 hb1
    go_wp2_with fail
    refine wp_region_noPanic ?_
    go_region_with (fail)
    all_goals refine NoPanic.normal ?_
    go_wp2_with fail
    refine (c2 _).use ?_
    intro w2 hb2
    go_wp2_with fail
    refine (c3 _).use ?_
    intro w3 hb3
    go_wp2_with fail
    refine (fixed2 _).use ?_
    intro w4 hb4
    go_wp2_with fail
    exact finB hR (by repeat (first | assumption | exact Below.refl _ _ | refine below_all ?_ | refine below_any (Nat.le_refl _) ?_ (by assumption) | refine Below.drew ?_)) rfl
  · obtain rfl : z = 32 := hz
    have hx : bits .xor .u8 (((S f)[k]'hkS).toNat : Int) (IntKind.u8.wrap 32) = (y : Int) := hx
    go_enter Try.func14, Try.ntmps14
    go_wp2_with fail
    refine (c1 _).use ?_
    intro w1 hb1
    go_wp2_with fail
    refine wp_region_noPanic ?_
    go_region_with (fail)
    all_goals refine NoPanic.normal ?_
    go_wp2_with fail
    refine (c2 _).use ?_
    intro w2 hb2
    go_wp2_with fail
    refine (c3 _).use ?_
    intro w3 hb3
    go_wp2_with fail
    refine (fixed2 _).use ?_
    intro w4 hb4
    go_wp2_with fail
    exact finB hR (by repeat (first | assumption | exact Below.refl _ _ | refine below_all ?_ | refine below_any (Nat.le_refl _) ?_ (by assumption) | refine Below.drew ?_)) rfl
  · obtain rfl : z = 64 := hz
    have hx : bits .xor .u8 (((S f)[k]'hkS).toNat : Int) (IntKind.u8.wrap 64) = (y : Int) := hx
    go_enter Try.func14, Try.ntmps14
    go_wp2_with fail
    refine (c1 _).use ?_
    intro w1 hb1
    go_wp2_with fail
    refine wp_region_noPanic ?_
    go_region_with (fail)
    all_goals refine NoPanic.normal ?_
    go_wp2_with fail
    refine (c2 _).use ?_
    intro w2 hb2
    go_wp2_with fail
    refine (c3 _).use ?_
    intro w3 hb3
    go_wp2_with fail
    refine (fixed2 _).use ?_
    intro w4 hb4
    go_wp2_with fail
    exact finB hR (by repeat (first | assumption | exact Below.refl _ _ | refine below_all ?_ | refine below_any (Nat.le_refl _) ?_ (by assumption) | refine Below.drew ?_)) rfl
  · obtain rfl : z = 128 := hz
    have hx : bits .xor .u8 (((S f)[k]'hkS).toNat : Int) (IntKind.u8.wrap 128) = (y : Int) := hx
    go_enter Try.func14, Try.ntmps14
    go_wp2_with fail
    refine (c1 _).use ?_
    intro w1 hb1
    go_wp2_with fail
    refine wp_region_noPanic ?_
    go_region_with (fail)
    all_goals refine NoPanic.normal ?_
    go_wp2_with fail
    refine (c2 _).use ?_
    intro w2 hb2
    go_wp2_with fail
    refine (c3 _).use ?_
    intro w3 hb3
    go_wp2_with fail
    refine (fixed2 _).use ?_
    intro w4 hb4
    go_wp2_with fail
    exact finB hR (by repeat (first | assumption | exact Below.refl _ _ | refine below_all ?_ | refine below_any (Nat.le_refl _) ?_ (by assumption) | refine Below.drew ?_)) rfl
end Go.Proofs.Ytdgeljfiobmkcaa.crcSpoilt
