/-
  Layer 3's reference: a record is got: contract.
-/
import Derived.Test.YthiliodmbipikaaGreatRecY
set_option linter.unusedVariables false
set_option linter.unusedSimpArgs false
namespace Go.Proofs.YthiliodmbipikaaGreat
open Go.RowKit
attribute [local go_sem] ByteArray.extract_mk ByteArray.mk_append_mk

/-- A record got, as the call hands it back. -/
def mgetV (m : Rec × Int × Int) : Value := .tuple #[.agg #[.bool m.1.hk, .string (S m.1.key), .bool m.1.tb, .string (S m.1.val)], .int .i64 m.2.1, .int .i64 m.2.2]

set_option maxHeartbeats 2000000 in
set_option maxRecDepth 100000 in
theorem rget3_any (s : List UInt8) (at_ : Int) (w : World) (hl : s.length ≤ maxLen) :
    RetB Tryz.prog 50 #[.string (S s), .int .i64 at_] w (mgetV (mget s at_)) := by
  refine RetB.intro fun R hR => ?_
  have hl' := hl
  unfold maxLen at hl'
  by_cases hp : 0 ≤ at_ ∧ at_ ≤ s.length
  · obtain ⟨h0, h1⟩ := hp
    obtain ⟨k, rfl⟩ := Int.eq_ofNat_of_zero_le h0
    have d1 : decide ((k : Int) < 0) = false := by simp
    have d2 : decide (s.length < k) = false := by simp; omega
    by_cases hk : k = s.length
    · rw [mget_end hk] at hR
      have d3 : ((k : Int) == (s.length : Int)) = true := by simp; omega
      clear hk h0 h1
      go_enter Tryz.func50, Tryz.ntmps50
      go_wp2
      refine bodyPost_ret (results_cell3 rfl _ _ w.heap.size 35 #[.bool false, .string (S []), .bool false, .string (S [])] (0, 0) _ _ _ rfl rfl rfl (Blk.new w _ _) Tryz.underlying35 rfl (by kernel_rfl)) rfl ?_
      exact finB hR (below_all (Below.refl _ _)) rfl
    · have hlt2 : k < s.length := by omega
      have d3 : ((k : Int) == (s.length : Int)) = false := by simp; omega
      obtain ⟨c, hc⟩ : ∃ c, ((S s)[k]'(by rw [S_size]; exact hlt2)).toNat = c := ⟨_, rfl⟩
      have hc' : (s[k]'hlt2).toNat = c := hc
      have hb : c < 256 := by rw [← hc]; exact UInt8.toNat_lt _
      have hs1 : IntKind.i64.wrap ((k : Int) + 1) = (k : Int) + 1 := by rw [IntKind.wrap_i64]; omega
      clear hk h0 h1
      by_cases e0 : c = 0 ∨ c = 1 ∨ c = 3
      · rcases e0 with rfl | rfl | rfl
        · obtain ⟨v, to, e, hv⟩ : ∃ v to e, vtext s ((k : Int) + 1) 512 = (v, to, e) := ⟨_, _, _, rfl⟩
          have cG := fun w => rvtext_eq hv w hl (by decide)
          rw [mget_0 hlt2 hc' hv] at hR
          clear hv hc'
          by_cases he : e = 0
          · subst he
            rw [if_pos rfl] at hR
            go_enter Tryz.func50, Tryz.ntmps50
            go_wp2_with (go_at_call 49; refine (cG _).use ?_)
            refine bodyPost_ret (results_cell3 rfl _ _ w.heap.size 35 #[.bool false, .string (S []), .bool false, .string (S v)] (0, 0) _ _ _ rfl rfl rfl ((Blk.new w _ _).alloc _) Tryz.underlying35 rfl (by kernel_rfl)) rfl ?_
            exact finB hR (below_all (below_all (Below.refl _ _))) rfl
          · rw [if_neg he] at hR
            have x1 : ((e : Int) == 0) = false := by simpa using he
            have x2 : ((e : Int) != 0) = true := by simpa using he
            clear he
            go_enter Tryz.func50, Tryz.ntmps50
            go_wp2_with (go_at_call 49; refine (cG _).use ?_)
            refine bodyPost_ret (results_cell3 rfl _ _ w.heap.size 35 #[.bool false, .string (S []), .bool false, .string (S [])] (0, 0) _ _ _ rfl rfl rfl ((Blk.new w _ _).alloc _) Tryz.underlying35 rfl (by kernel_rfl)) rfl ?_
            exact finB hR (below_all (below_all (Below.refl _ _))) rfl
        · obtain ⟨x, t2, e2, hx⟩ : ∃ v to e, vtext s ((k : Int) + 1) 64 = (v, to, e) := ⟨_, _, _, rfl⟩
          have cK := fun w => rvtext_eq hx w hl (by decide)
          by_cases he2 : e2 = 0
          · subst he2
            obtain ⟨v, to, e, hv⟩ : ∃ v to e, vtext s t2 512 = (v, to, e) := ⟨_, _, _, rfl⟩
            have cG := fun w => rvtext_eq hv w hl (by decide)
            rw [mget_1 hlt2 hc' hx hv] at hR
            clear hv hc' hx
            by_cases he : e = 0
            · subst he
              rw [if_pos rfl] at hR
              go_enter Tryz.func50, Tryz.ntmps50
              go_wp2_with fail
              refine (cK _).use ?_
              go_wp2_with fail
              refine (cG _).use ?_
              go_wp2_with fail
              refine bodyPost_ret (results_cell3 rfl _ _ w.heap.size 35 #[.bool true, .string (S x), .bool false, .string (S v)] (0, 0) _ _ _ rfl rfl rfl ((Blk.new w _ _).alloc _) Tryz.underlying35 rfl (by kernel_rfl)) rfl ?_
              exact finB hR (below_all (below_all (Below.refl _ _))) rfl
            · rw [if_neg he] at hR
              have x1 : ((e : Int) == 0) = false := by simpa using he
              have x2 : ((e : Int) != 0) = true := by simpa using he
              clear he
              go_enter Tryz.func50, Tryz.ntmps50
              go_wp2_with fail
              refine (cK _).use ?_
              go_wp2_with fail
              refine (cG _).use ?_
              go_wp2_with fail
              refine bodyPost_ret (results_cell3 rfl _ _ w.heap.size 35 #[.bool false, .string (S []), .bool false, .string (S [])] (0, 0) _ _ _ rfl rfl rfl ((Blk.new w _ _).alloc _) Tryz.underlying35 rfl (by kernel_rfl)) rfl ?_
              exact finB hR (below_all (below_all (Below.refl _ _))) rfl
          · rw [mget_1e hlt2 hc' hx he2] at hR
            have x1 : ((e2 : Int) == 0) = false := by simpa using he2
            have x2 : ((e2 : Int) != 0) = true := by simpa using he2
            clear he2 hc' hx
            go_enter Tryz.func50, Tryz.ntmps50
            go_wp2_with fail
            refine (cK _).use ?_
            go_wp2_with fail
            refine bodyPost_ret (results_cell3 rfl _ _ w.heap.size 35 #[.bool false, .string (S []), .bool false, .string (S [])] (0, 0) _ _ _ rfl rfl rfl ((Blk.new w _ _).alloc _) Tryz.underlying35 rfl (by kernel_rfl)) rfl ?_
            exact finB hR (below_all (below_all (Below.refl _ _))) rfl
        · obtain ⟨x, t2, e2, hx⟩ : ∃ v to e, vtext s ((k : Int) + 1) 64 = (v, to, e) := ⟨_, _, _, rfl⟩
          have cK := fun w => rvtext_eq hx w hl (by decide)
          rw [mget_3 hlt2 hc' hx] at hR
          clear hc' hx
          by_cases he2 : e2 = 0
          · subst he2
            rw [if_pos rfl] at hR
            go_enter Tryz.func50, Tryz.ntmps50
            go_wp2_with fail
            refine (cK _).use ?_
            go_wp2_with fail
            refine bodyPost_ret (results_cell3 rfl _ _ w.heap.size 35 #[.bool true, .string (S x), .bool true, .string (S [])] (0, 0) _ _ _ rfl rfl rfl ((Blk.new w _ _).alloc _) Tryz.underlying35 rfl (by kernel_rfl)) rfl ?_
            exact finB hR (below_all (below_all (Below.refl _ _))) rfl
          · rw [if_neg he2] at hR
            have x1 : ((e2 : Int) == 0) = false := by simpa using he2
            have x2 : ((e2 : Int) != 0) = true := by simpa using he2
            clear he2
            go_enter Tryz.func50, Tryz.ntmps50
            go_wp2_with fail
            refine (cK _).use ?_
            go_wp2_with fail
            refine bodyPost_ret (results_cell3 rfl _ _ w.heap.size 35 #[.bool false, .string (S []), .bool false, .string (S [])] (0, 0) _ _ _ rfl rfl rfl ((Blk.new w _ _).alloc _) Tryz.underlying35 rfl (by kernel_rfl)) rfl ?_
            exact finB hR (below_all (below_all (Below.refl _ _))) rfl
      · rw [mget_bad hlt2 hc' e0] at hR
        have x0 : ((c : Int) == 2) = true ∨ ((c : Int) == 2) = false ∧ (3 : Int) < c := by simp; omega
        clear e0 hc'
        rcases x0 with x0 | ⟨x0, x1⟩
        all_goals
          go_enter Tryz.func50, Tryz.ntmps50
          go_wp2
          refine bodyPost_ret (results_cell3 rfl _ _ w.heap.size 35 #[.bool false, .string (S []), .bool false, .string (S [])] (0, 0) _ _ _ rfl rfl rfl ((Blk.new w _ _).alloc _) Tryz.underlying35 rfl (by kernel_rfl)) rfl ?_
          exact finB hR (below_all (below_all (Below.refl _ _))) rfl
  · rw [mget_out hp] at hR
    by_cases h0 : at_ < 0
    · have d1 : decide (at_ < 0) = true := by simpa using h0
      clear hp
      go_enter Tryz.func50, Tryz.ntmps50
      go_wp2
      refine bodyPost_ret (results_cell3 rfl _ _ w.heap.size 35 #[.bool false, .string (S []), .bool false, .string (S [])] (0, 0) _ _ _ rfl rfl rfl (Blk.new w _ _) Tryz.underlying35 rfl (by kernel_rfl)) rfl ?_
      exact finB hR (below_all (Below.refl _ _)) rfl
    · have h1 : (s.length : Int) < at_ := by omega
      have d1 : decide (at_ < 0) = false := by simpa using h0
      clear hp
      go_enter Tryz.func50, Tryz.ntmps50
      go_wp2
      refine bodyPost_ret (results_cell3 rfl _ _ w.heap.size 35 #[.bool false, .string (S []), .bool false, .string (S [])] (0, 0) _ _ _ rfl rfl rfl (Blk.new w _ _) Tryz.underlying35 rfl (by kernel_rfl)) rfl ?_
      exact finB hR (below_all (Below.refl _ _)) rfl
end Go.Proofs.YthiliodmbipikaaGreat
