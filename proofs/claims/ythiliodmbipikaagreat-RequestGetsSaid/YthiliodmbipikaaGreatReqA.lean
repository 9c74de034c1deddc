/-
  Layer 4: may a text be a name?
-/
import Derived.Test.YthiliodmbipikaaGreatReqP
import Derived.Test.YthiliodmbipikaaGreatShelf
import Derived.Laws.RangeAny
import Derived.Lib.Hide
import Derived.Test.YthiliodmbipikaaGreatBase
set_option linter.unusedVariables false
set_option linter.unusedSimpArgs false
namespace Go.Proofs.YthiliodmbipikaaGreat
open Go.RowKit
attribute [local go_sem] ByteArray.extract_mk ByteArray.mk_append_mk

theorem oddR_high {x : Nat} (h : 128 ≤ x) : oddR x = true := by unfold oddR; simp; omega
theorem idx_odd (s : ByteArray) : ∀ f pos, s.size ≤ pos + f → (0 ≤ Lib.idxFuncFrom oddR true s f pos ↔ ∃ i, ∃ h : i < s.size, pos ≤ i ∧ oddR (s[i]'h).toNat = true)
  | 0, pos, h => by
    constructor
    · intro h1; simp [Lib.idxFuncFrom] at h1
    · rintro ⟨i, h1, h2, _⟩; omega
  | f + 1, pos, h => by
    unfold Lib.idxFuncFrom
    by_cases hp : pos < s.size
    · rw [if_pos hp]
      by_cases ha : (s[pos]'hp).toNat < 128
      · rw [decode_ascii s pos hp ha]
        by_cases ho : oddR (s[pos]'hp).toNat = true
        · rw [if_pos ho]
          exact ⟨fun _ => ⟨pos, hp, Nat.le_refl _, ho⟩, fun _ => by omega⟩
        · rw [if_neg ho]
          show (0 ≤ Lib.idxFuncFrom oddR true s f (pos + 1)) ↔ _
          rw [idx_odd s f (pos + 1) (by omega)]
          constructor
          · rintro ⟨i, h1, h2, h3⟩; exact ⟨i, h1, by omega, h3⟩
          · rintro ⟨i, h1, h2, h3⟩
            by_cases e : i = pos
            · subst e; exact absurd h3 ho
            · exact ⟨i, h1, by omega, h3⟩
      · have hh := decode_high s pos hp (by omega)
        rw [if_pos (oddR_high hh.1)]
        exact ⟨fun _ => ⟨pos, hp, Nat.le_refl _, oddR_high (by omega)⟩, fun _ => by omega⟩
    · rw [if_neg hp]
      constructor
      · intro h1; simp at h1
      · rintro ⟨i, h1, h2, _⟩; omega
theorem idx_any (l : List UInt8) : decide (0 ≤ Lib.idxFunc oddR true (S l)) = l.any fun c => oddR c.toNat := by
  unfold Lib.idxFunc
  rw [Bool.eq_iff_iff, decide_eq_true_eq, idx_odd _ _ _ (by omega), List.any_eq_true]
  constructor
  · rintro ⟨i, h, _, h2⟩
    exact ⟨_, List.getElem_mem (by simpa [S_size] using h), h2⟩
  · rintro ⟨c, hc, h⟩
    obtain ⟨i, hi, rfl⟩ := List.getElem_of_mem hc
    exact ⟨i, by simpa [S_size] using hi, by omega, h⟩
set_option maxHeartbeats 1000000 in
theorem odd_gives (x : Nat) (w : World) : Ret Tryz.prog 43 #[.int .i32 (x : Int)] w (.bool (oddR x)) := by
  refine Ret.intro fun R hR => ?_
  have h0 : oddR x = oddR x := rfl
  conv at h0 => rhs; unfold oddR
  rw [h0] at hR
  clear h0
  by_cases h1 : x < 97 <;> by_cases h2 : 122 < x <;> by_cases h3 : x < 48 <;> by_cases h4 : 57 < x <;> by_cases h5 : x = 45
  all_goals first
    | omega
    | (have a1 : decide ((x : Int) < 97) = decide (x < 97) := by simp [h1]; omega
       have a2 : decide ((122 : Int) < (x : Int)) = decide (122 < x) := by simp [h2]; omega
       have a3 : decide ((x : Int) < 48) = decide (x < 48) := by simp [h3]; omega
       have a4 : decide ((57 : Int) < (x : Int)) = decide (57 < x) := by simp [h4]; omega
       have a5 : ((x : Int) != 45) = decide (x ≠ 45) := by by_cases e : x = 45 <;> simp [e]; omega
       simp only [h1, h2, h3, h4, h5, decide_true, decide_false, Bool.true_or, Bool.or_true, Bool.or_false, Bool.and_true, Bool.true_and, Bool.false_and, Bool.and_false, ne_eq, not_true_eq_false, not_false_eq_true] at hR a1 a2 a3 a4 a5
       go_enter Tryz.func43, Tryz.ntmps43
       go_wp2_with fail
       exact fin hR rfl)
set_option maxRecDepth 100000 in
theorem odd_pred (w : World) : PredAt Tryz.prog 43 #[] encR oddR w := fun W x _ => (odd_gives x W).mono fun e w' ⟨h1, h2⟩ => ⟨h1, 0, by subst h2; rfl⟩
set_option maxRecDepth 100000 in
theorem contains_odd (l : List UInt8) (w : World) : RetB Tryz.prog 44 #[.string (S l), .func (.func 43) #[] #[]] w (.bool (l.any fun c => oddR c.toNat)) :=
  (Tryz.strings_ContainsFunc 43 #[] (fun _ _ => by kernel_rfl) oddR (S l) w (odd_pred w)).mono fun e w' ⟨h1, h2⟩ => ⟨by rw [h1, idx_any], h2⟩
set_option maxHeartbeats 1000000 in
theorem name4 (l : List UInt8) (w : World) (hl : l.length ≤ maxLen) : RetB Tryz.prog 20 #[.string (S l)] w (.bool (isName l)) := by
  refine RetB.intro fun R hR => ?_
  have cC := Lib.hid (fun w => contains_odd l w)
  unfold maxLen at hl
  by_cases h0 : l = []
  · subst h0
    clear cC
    go_enter Tryz.func20, Tryz.ntmps20
    go_wp2_with fail
    exact finB hR (Below.refl _ _) rfl
  · have e0 : l.isEmpty = false := by simpa using h0
    by_cases h1 : l.length ≤ 16
    · have e1 : isName l = !(l.any fun c => oddR c.toNat) := by unfold isName; rw [e0, decide_eq_true h1]; simp
      rw [e1] at hR
      have t1 : ((l.length : Int) ≤ 16) = True := eq_true (by omega)
      generalize (l.any fun c => oddR c.toNat) = bb at *
      clear e1 h0
      go_enter Tryz.func20, Tryz.ntmps20
      go_wp2_with fail
      refine (cC.out _).use ?_
      intro w2 b2
      go_wp2_with fail
      exact finB hR b2 rfl
    · have e1 : isName l = false := by unfold isName; rw [decide_eq_false h1]; simp
      rw [e1] at hR
      have t1 : ((l.length : Int) ≤ 16) = False := eq_false (by omega)
      clear e1 cC h0
      go_enter Tryz.func20, Tryz.ntmps20
      go_wp2_with fail
      exact finB hR (Below.refl _ _) rfl
end Go.Proofs.YthiliodmbipikaaGreat
