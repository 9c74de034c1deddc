/-
  Layer 4: a command read, of any kind.
-/
import Derived.Test.YthiliodmbipikaaGreatReqO
set_option linter.unusedVariables false
set_option linter.unusedSimpArgs false
namespace Go.Proofs.YthiliodmbipikaaGreat
open Go.RowKit
attribute [local go_sem] ByteArray.extract_mk ByteArray.mk_append_mk

set_option maxHeartbeats 2000000 in
set_option maxRecDepth 100000 in
theorem r_visit_no (s : List UInt8) (k a e : Int) (p q : Nat) (w : World) (hk : ¬ (0 ≤ k ∧ k ≤ 12)) (hp : Blk w p (rdr s a e) 48) (hq : Blk w q #[.int .i64 k, .string (S []), .int .i64 0, .int .i64 0, .int .i64 0, .int .i64 0, .int .i64 0, .int .i64 0, .slice none 0 0, .string (S []), .string (S []), .int .i64 0, .bool false, .slice none 0 0] 29) : RVis s p q k a e w := by
  refine RVis.intro fun R hR => ?_
  have t0 : (k = 0) = False := eq_false (by omega)
  have u0 : (k == 0) = false := decide_eq_false (by omega)
  have t1 : (k = 1) = False := eq_false (by omega)
  have u1 : (k == 1) = false := decide_eq_false (by omega)
  have t2 : (k = 2) = False := eq_false (by omega)
  have u2 : (k == 2) = false := decide_eq_false (by omega)
  have t3 : (k = 3) = False := eq_false (by omega)
  have u3 : (k == 3) = false := decide_eq_false (by omega)
  have t4 : (k = 4) = False := eq_false (by omega)
  have u4 : (k == 4) = false := decide_eq_false (by omega)
  have t5 : (k = 5) = False := eq_false (by omega)
  have u5 : (k == 5) = false := decide_eq_false (by omega)
  have t6 : (k = 6) = False := eq_false (by omega)
  have u6 : (k == 6) = false := decide_eq_false (by omega)
  have t7 : (k = 7) = False := eq_false (by omega)
  have u7 : (k == 7) = false := decide_eq_false (by omega)
  have t8 : (k = 8) = False := eq_false (by omega)
  have u8 : (k == 8) = false := decide_eq_false (by omega)
  have t9 : (k = 9) = False := eq_false (by omega)
  have u9 : (k == 9) = false := decide_eq_false (by omega)
  have t10 : (k = 10) = False := eq_false (by omega)
  have u10 : (k == 10) = false := decide_eq_false (by omega)
  have t11 : (k = 11) = False := eq_false (by omega)
  have u11 : (k == 11) = false := decide_eq_false (by omega)
  have t12 : (k = 12) = False := eq_false (by omega)
  have u12 : (k == 12) = false := decide_eq_false (by omega)
  obtain ⟨kq0, x0⟩ : q < w.heap.size ∧ w.cell? ⟨q, 0, none⟩ = some (.int .i64 k) := ⟨hq.lt, hq.cell 0⟩
  have HK := Lib.hid hk
  have HP := Lib.hid hp
  have HQ := Lib.hid hq
  clear hk hp hq
  go_enter Tryz.func13, Tryz.ntmps13
  go_wp2_with fail
  first | refine bodyPost_end (results_none rfl _ _ _) rfl ?_ | refine bodyPost_ret (results_none rfl _ _ _) rfl ?_
  refine hR.out w ⟨k, [], 0, 0, 0, 0, 0, 0, [], [], [], 0, false, []⟩ (.slice none 0 0) (.slice none 0 0) a e ⟨rfl, ⟨.inl ⟨rfl, _, _, rfl⟩, .inl ⟨rfl, _, _, rfl⟩⟩, ⟨by simp, by simp, by simp, ⟨by simp, by simp⟩, ⟨by simp, by simp⟩⟩, HP.out, HQ.out, KeptR.refl _ _, by simp [Value.ownBlock], by simp [Value.ownBlock], fun y b h0 hy hok _ => ?_⟩
  exact absurd (hy ▸ (ccheck_ok hok).kind) HK.out
theorem r_visit (s : List UInt8) (k a e : Int) (p q : Nat) (w : World) (hl9 : s.length ≤ 900000) (hp : Blk w p (rdr s a e) 48) (hq : Blk w q #[.int .i64 k, .string (S []), .int .i64 0, .int .i64 0, .int .i64 0, .int .i64 0, .int .i64 0, .int .i64 0, .slice none 0 0, .string (S []), .string (S []), .int .i64 0, .bool false, .slice none 0 0] 29) (hpq : p ≠ q) : RVis s p q k a e w := by
  by_cases hk : 0 ≤ k ∧ k ≤ 12
  · have hkk : k = 0 ∨ k = 1 ∨ k = 2 ∨ k = 3 ∨ k = 4 ∨ k = 5 ∨ k = 6 ∨ k = 7 ∨ k = 8 ∨ k = 9 ∨ k = 10 ∨ k = 11 ∨ k = 12 := by omega
    rcases hkk with rfl | rfl | rfl | rfl | rfl | rfl | rfl | rfl | rfl | rfl | rfl | rfl | rfl
    · exact r_visit0 s a e p q w hl9 hp hq hpq
    · exact r_visit1 s a e p q w hl9 hp hq hpq
    · exact r_visit2 s a e p q w hl9 hp hq hpq
    · exact r_visit3 s a e p q w hl9 hp hq hpq
    · exact r_visit4 s a e p q w hl9 hp hq hpq
    · exact r_visit5 s a e p q w hl9 hp hq hpq
    · exact r_visit6 s a e p q w hl9 hp hq hpq
    · exact r_visit7 s a e p q w hl9 hp hq hpq
    · exact r_visit8 s a e p q w hl9 hp hq hpq
    · exact r_visit9 s a e p q w hl9 hp hq hpq
    · exact r_visit10 s a e p q w hl9 hp hq hpq
    · exact r_visit11 s a e p q w hl9 hp hq hpq
    · exact r_visit12 s a e p q w hl9 hp hq hpq
  · exact r_visit_no s k a e p q w hk hp hq
end Go.Proofs.YthiliodmbipikaaGreat
