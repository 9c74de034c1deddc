/-
  Layer 4: what a check notes of a command's topics; it goes over a command.
-/
import Derived.Test.YthiliodmbipikaaGreatReqB
import Derived.BigQuiet
set_option linter.unusedVariables false
set_option linter.unusedSimpArgs false
namespace Go.Proofs.YthiliodmbipikaaGreat
open Go.RowKit
attribute [local go_sem] ByteArray.extract_mk ByteArray.mk_append_mk

theorem namesOk_eq (l : List (List UInt8)) : (!namesOk l) = (decide (l.length = 0) || decide (8 < l.length) || (l.any fun s => !isName s) || !risingB l) := by
  unfold namesOk
  have e1 : l.isEmpty = decide (l.length = 0) := by cases l <;> simp
  have e2 : (l.any fun s => !isName s) = !(l.all isName) := by
    induction l with
    | nil => rfl
    | cons a l ih =>
      have ih := ih (by cases l <;> simp)
      simp only [List.any_cons, List.all_cons, ih, Bool.not_and]
  have e3 : decide (8 < l.length) = !decide (l.length ≤ 8) := by by_cases h : l.length ≤ 8 <;> simp [h]; omega
  rw [e1, e2, e3]
  cases decide (l.length = 0) <;> cases decide (l.length ≤ 8) <;> cases l.all isName <;> cases risingB l <;> rfl
set_option maxHeartbeats 4000000 in
theorem ck_names (p q o : Nat) (cs : Array Value) (f a : Bool) (e : Int) (w : World) (tv : Value) (l : List (List UInt8)) (hp : Blk w p #[.bool f, .bool a, .int .i64 e] 110) (hq : Blk w q cs 29) (hpq : p ≠ q) (ho : cs[o]? = some tv)
    (hv : TopsIn w tv l) (hl : l.length ≤ 1000000 ∧ ∀ s ∈ l, s.length ≤ maxLen) :
    VCall 115 #[.pointer (some ⟨p, 0, none⟩), .pointer (some ⟨q, o, none⟩)] w p #[.bool (f || !namesOk l), .bool a, .int .i64 e] 110 q (cs.setIfInBounds o (.slice none 0 0)) := by
  refine VCall.intro fun R hR => ?_
  have HL := Lib.hid hl
  have hl1 := hl.1
  have HV := Lib.hid hv
  obtain ⟨ta, tc, rfl⟩ := hv.form
  have y0 := (hq.cell o).trans ho
  have kq := hq.lt
  have HP := Lib.hid hp
  have HQ := Lib.hid hq
  have HO := Lib.hid ho
  rw [namesOk_eq] at hR
  clear hp hq ho hv hl
  go_enter Tryz.func115, Tryz.ntmps115
  go_wp2_with fail
  go_loopw [4, 5] (fun (v4 v5 : Value) (W : World) => ∃ i : Nat, (i + 1 ≤ l.length ∨ i = 0) ∧ v5 = .int .i64 ((i : Int) + 1) ∧ v4 = .bool (risingB (l.take (i + 1))) ∧ Below w.heap.size w W) (fun (v4 v5 : Value) (W : World) => (l.length - intOf v5).toNat)
  case atStart => exact ⟨0, .inr rfl, by go_num, by cases l <;> rfl, Below.refl _ _⟩
  case round =>
    obtain ⟨i, hi, rfl, rfl, hb⟩ := hrel
    have y1 := (hb.cell (p := ⟨q, o, none⟩) kq).trans y0
    clear y0
    by_cases hil : i + 1 < l.length
    · rcases HV.out.below hb with ⟨h, _⟩ | ⟨b, off, cap', hsl, hne, hlt, hc⟩
      · rw [h] at hil; simp at hil
      simp only [Value.slice.injEq, true_and] at hsl
      obtain ⟨rfl, rfl⟩ := hsl
      have c0 := hc i (by omega)
      have c1 := hc (i + 1) hil
      have hrt := rising_take l i hil
      have t1 : ((i : Int) + 1 < (l.length : Int)) = True := eq_true (by omega)
      have e1 : IntKind.i64.wrap ((i : Int) + 1 - 1) = (i : Int) := by rw [IntKind.wrap_i64]; omega
      have i1 : (0 : Int) ≤ (i : Int) := by omega
      have i2 : (i : Int) < (l.length : Int) := by omega
      have i3 : (0 : Int) ≤ (i : Int) + 1 := by omega
      have i4 : ((i : Int) + 1).toNat = i + 1 := by omega
      clear hc hne
      cases hb1 : risingB (l.take (i + 1))
      · have HRT : Hid (risingB (l.take (i + 2)) = false) := Lib.hid (by rw [hrt, hb1]; rfl)
        clear hrt hb1
        go_wp2_with fail
        go_quiet (fail)
        go_wp2_with fail
        go_roundw
        case rel => exact ⟨i + 1, .inl (by omega), by go_num, by rw [HRT.out], belowN hb _⟩
        case measure => simp [intOf]; omega
      · have HRT : Hid (risingB (l.take (i + 2)) = ltB l[i] l[i + 1]) := Lib.hid (by rw [hrt, hb1]; rfl)
        clear hrt hb1
        go_wp2_with fail
        go_quiet (fail)
        go_wp2_with fail
        go_roundw
        case rel => exact ⟨i + 1, .inl (by omega), by go_num, by rw [HRT.out, ltB_less], belowN hb _⟩
        case measure => simp [intOf]; omega
    · have t1 : ((i : Int) + 1 < (l.length : Int)) = False := eq_false (by omega)
      have cC := Lib.hid (containsfunc4 _ l wr (HV.out.below hb) HL.out)
      have hrl : risingB (l.take (i + 1)) = risingB l := by rw [List.take_of_length_le (by omega)]
      rw [hrl]
      generalize (l.any fun s => !isName s) = od at *
      generalize risingB l = rs at *
      clear hrl
      go_wp2_with fail
      refine cC.out.use ?_
      intro w2 b2
      have b2 := Lib.hid (below_any (Nat.le_refl _) hb b2)
      have hp2 := HP.out.below b2.out
      have hq2 := HQ.out.below b2.out
      obtain ⟨k0, z0, z1, z2⟩ := hp2.c3
      have z3 := (hq2.cell o).trans HO.out
      have kq2 := hq2.lt
      have fp2 : ∀ i, w2.frozen? ⟨p, i, none⟩ = false := fun i => Blk.frozen hp2 i
      have fq2 : ∀ i, w2.frozen? ⟨q, i, none⟩ = false := fun i => Blk.frozen hq2 i
      have HP2 := Lib.hid hp2
      have HQ2 := Lib.hid hq2
      clear hp2 hq2 y1 hb cC t1
      cases f
      case true =>
        rw [show (true || (decide (l.length = 0) || decide (8 < l.length) || od || !rs)) = true from rfl] at hR
        go_wp2_with fail
        refine bodyPost_end (results_none rfl _ _ _) rfl ?_
        exact hR.out _ (v_fin HP2.out HQ2.out hpq).1 (v_fin HP2.out HQ2.out hpq).2.1 (((KeptR.refl _ w).bel b2.out).trans (v_fin HP2.out HQ2.out hpq).2.2)
      case false =>
        by_cases h0 : l.length = 0
        · have u0 : ((l.length : Int) == 0) = true := by simp [h0]
          rw [show (false || (decide (l.length = 0) || decide (8 < l.length) || od || !rs)) = true from by simp [h0]] at hR
          clear h0
          go_wp2_with fail
          refine bodyPost_end (results_none rfl _ _ _) rfl ?_
          exact hR.out _ (v_fin HP2.out HQ2.out hpq).1 (v_fin HP2.out HQ2.out hpq).2.1 (((KeptR.refl _ w).bel b2.out).trans (v_fin HP2.out HQ2.out hpq).2.2)
        · have u0 : ((l.length : Int) == 0) = false := by simpa using h0
          by_cases h8 : 8 < l.length
          · have u1 : ((8 : Int) < (l.length : Int)) = True := eq_true (by omega)
            rw [show (false || (decide (l.length = 0) || decide (8 < l.length) || od || !rs)) = true from by simp [h8]] at hR
            go_wp2_with fail
            refine bodyPost_end (results_none rfl _ _ _) rfl ?_
            exact hR.out _ (v_fin HP2.out HQ2.out hpq).1 (v_fin HP2.out HQ2.out hpq).2.1 (((KeptR.refl _ w).bel b2.out).trans (v_fin HP2.out HQ2.out hpq).2.2)
          · have u1 : ((8 : Int) < (l.length : Int)) = False := eq_false (by omega)
            have hX : (false || (decide (l.length = 0) || decide (8 < l.length) || od || !rs)) = (od || !rs) := by rw [decide_eq_false h0, decide_eq_false h8]; rfl
            rw [hX] at hR
            clear hX h0 h8
            cases od
            case true =>
              go_wp2_with fail
              refine bodyPost_end (results_none rfl _ _ _) rfl ?_
              exact hR.out _ (v_fin HP2.out HQ2.out hpq).1 (v_fin HP2.out HQ2.out hpq).2.1 (((KeptR.refl _ w).bel b2.out).trans (v_fin HP2.out HQ2.out hpq).2.2)
            case false =>
              cases rs
              case true =>
                go_wp2_with fail
                refine bodyPost_end (results_none rfl _ _ _) rfl ?_
                exact hR.out _ (v_fin HP2.out HQ2.out hpq).1 (v_fin HP2.out HQ2.out hpq).2.1 (((KeptR.refl _ w).bel b2.out).trans (v_fin HP2.out HQ2.out hpq).2.2)
              case false =>
                go_wp2_with fail
                refine bodyPost_end (results_none rfl _ _ _) rfl ?_
                exact hR.out _ (v_fin HP2.out HQ2.out hpq).1 (v_fin HP2.out HQ2.out hpq).2.1 (((KeptR.refl _ w).bel b2.out).trans (v_fin HP2.out HQ2.out hpq).2.2)
end Go.Proofs.YthiliodmbipikaaGreat
