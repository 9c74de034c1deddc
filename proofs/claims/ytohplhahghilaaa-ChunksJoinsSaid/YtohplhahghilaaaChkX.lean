import Derived.Test.YtohplhahghilaaaChkP
import Derived.Test.YtohplhahghilaaaRecI
import Derived.Test.YtohplhahghilaaaCrcX
/-
  Several texts in one: ChkA, ChkB.
-/
set_option linter.unusedVariables false
set_option linter.unusedSimpArgs false
namespace Go.Proofs.Ytohplhahghilaaa
open Go.RowKit
attribute [local go_sem] ByteArray.extract_mk ByteArray.mk_append_mk

set_option maxHeartbeats 1000000 in
set_option maxRecDepth 100000 in
theorem right7 (c : Chk) (w : World) : RetB Try.prog 52 #[c.val] w (.bool c.right) := by
  refine RetB.intro fun R hR => ?_
  obtain ⟨i, n, d, b⟩ := c
  unfold Chk.right at hR
  unfold Chk.val
  go_enter Try.func52, Try.ntmps52
  go_wp2
  all_goals (refine finB hR (below_all (Below.refl _ _)) (veq_bool ?_); rw [Bool.eq_iff_iff]; simp [*]; try omega)

/-- A reader of layer 7: its bytes, where it stands, whether something was wrong. -/
def Rd7 (w : World) (b : Nat) (s : List UInt8) (at_ : Int) (bad : Bool) : Prop := Blk w b #[.string (S s), .int .i64 at_, .bool bad] 91
/-- What its number and its record are. -/
def cnum (s : List UInt8) (at_ : Int) (bad : Bool) : Nat × Int × Bool := if bad = true ∨ (vget s at_).2.2 ≠ 0 ∨ 1099511627776 < (vget s at_).1 then (0, at_, true) else ((vget s at_).1, (vget s at_).2.1, false)
def crec (s : List UInt8) (at_ : Int) (bad : Bool) : Rec × Int × Bool := if bad = true ∨ (mget s at_).2.2 ≠ 0 then (r0, at_, true) else ((mget s at_).1, (mget s at_).2.1, false)
def Rd7Call (f : FuncId) (args : Array Value) (w : World) (b : Nat) (s : List UInt8) (v : Value) (at_ : Int) (bad : Bool) : Prop :=
  Calls Try.prog f args w fun x w' => x = .returned v ∧ Rd7 w' b s at_ bad ∧ w.grownBy w' (some b)
theorem Rd7Call.intro {f : FuncId} {args : Array Value} {w : World} {b : Nat} {s : List UInt8} {v : Value} {at_ : Int} {bad : Bool}
    (h : ∀ R : Ending → World → Prop, Hid (∀ w', Rd7 w' b s at_ bad → w.grownBy w' (some b) → R (.returned v) w') → Calls Try.prog f args w R) : Rd7Call f args w b s v at_ bad := h _ fun _ h1 h2 => ⟨rfl, h1, h2⟩
theorem Rd7Call.use {f : FuncId} {args : Array Value} {w : World} {b : Nat} {s : List UInt8} {v : Value} {at_ : Int} {bad : Bool} {R : Ending → World → Prop}
    (h : Rd7Call f args w b s v at_ bad) (k : ∀ w', Rd7 w' b s at_ bad → w.grownBy w' (some b) → R (.returned v) w') : Calls Try.prog f args w R := h.mono fun x w' ⟨he, h1, h2⟩ => by subst he; exact k _ h1 h2
theorem finR7 {w w' : World} {b : Nat} {s : List UInt8} {v v' : Value} {at_ : Int} {bad : Bool} {R : Ending → World → Prop} (h : Hid (∀ w', Rd7 w' b s at_ bad → w.grownBy w' (some b) → R (.returned v) w')) (h1 : Rd7 w' b s at_ bad) (h2 : w.grownBy w' (some b)) (e1 : v' = v) : R (.returned v') w' := e1 ▸ h _ h1 h2

set_option maxHeartbeats 1000000 in
set_option maxRecDepth 100000 in
theorem number7 (s : List UInt8) (at_ : Int) (bad : Bool) (b : Nat) (w : World) (hr : Rd7 w b s at_ bad) (hl : s.length ≤ maxLen) :
    Rd7Call 44 #[.pointer (some ⟨b, 0, none⟩)] w b s (.int .i64 (cnum s at_ bad).1) (cnum s at_ bad).2.1 (cnum s at_ bad).2.2 := by
  refine Rd7Call.intro fun R hR => ?_
  obtain ⟨hlt, c0, c1, c2⟩ := Blk.c3 hr
  unfold cnum at hR
  obtain ⟨n, to, e, hv⟩ : ∃ n to e, vget s at_ = (n, to, e) := ⟨_, _, _, rfl⟩
  have cG := fun w => vget_eq hv w hl
  rw [hv] at hR
  clear hv hl
  simp only at hR
  have f1 : ∀ i, w.frozen? ⟨b, i, none⟩ = false := fun i => Blk.frozen hr i
  go_enter Try.func44, Try.ntmps44
  go_wp2_with fail
  go_region_held3 (fun w' => w'.cell? ⟨b, 0, none⟩ = some (.string (S s)) ∧ w'.cell? ⟨b, 1, none⟩ = some (.int .i64 at_) ∧ w'.cell? ⟨b, 2, none⟩ = some (.bool bad)) (go_keep) ((go_at_call 56; refine (cG _).use ?_))
  cases bad
  · by_cases he : e = 0
    · subst he
      by_cases hn : 1099511627776 < n
      · have h1 : (1099511627776 : Int) < (n : Int) := by omega
        rw [if_pos (by simp; omega)] at hR
        go_wp2
        exact finR7 hR (Blk.set (Blk.drew hr) 2 _) (grown_set (grown_drew (grown_refl _ _)) _ _) rfl
      · have h1 : ¬ (1099511627776 : Int) < (n : Int) := by omega
        have h2 : IntKind.i64.wrap (n : Int) = n := by rw [IntKind.wrap_i64]; omega
        rw [if_neg (by simp; omega)] at hR
        go_wp2
        exact finR7 hR (Blk.set (Blk.set (Blk.drew hr) 2 _) 1 _) (grown_set (grown_set (grown_drew (grown_refl _ _)) _ _) _ _) rfl
    · have h1 : (e != 0) = true := by simpa using he
      rw [if_pos (by simp [he])] at hR
      clear he
      go_wp2
      exact finR7 hR (Blk.set (Blk.drew hr) 2 _) (grown_set (grown_drew (grown_refl _ _)) _ _) rfl
  · rw [if_pos (by simp)] at hR
    go_wp2
    exact finR7 hR (Blk.set (Blk.drew hr) 2 _) (grown_set (grown_drew (grown_refl _ _)) _ _) rfl
end Go.Proofs.Ytohplhahghilaaa

set_option linter.unusedVariables false
set_option linter.unusedSimpArgs false
namespace Go.Proofs.Ytohplhahghilaaa
open Go.RowKit
attribute [local go_sem] ByteArray.extract_mk ByteArray.mk_append_mk

theorem bdrew {w W : World} (h : Below w.drew.heap.size w.drew W) : Below w.heap.size w W := below_any (Nat.le_refl _) (Below.refl _ w).drew h
theorem frA {W1 w2 : World} (cs : Array Value) (T : TypeId) (hb : Below W1.drew.heap.size W1.drew w2) : Below W1.heap.size W1 (w2.alloc (.cells cs T)) ∧ Blk (w2.alloc (.cells cs T)) w2.heap.size cs T ∧ W1.heap.size ≤ w2.heap.size :=
  have h : Below W1.heap.size W1 w2 := bdrew hb
  ⟨below_all h, Blk.new _ _ _, h.size⟩
theorem frB {W1 w2 : World} {T : TypeId} {x0 x1 x2 x3 : Value} (v0 v1 v2 v3 : Value) (hb : Below (W1.alloc (.cells #[x0, x1, x2, x3] T)).drew.heap.size (W1.alloc (.cells #[x0, x1, x2, x3] T)).drew w2) :
    Below W1.heap.size W1 ((((w2.setCell ⟨W1.heap.size, 0, none⟩ v0).setCell ⟨W1.heap.size, 1, none⟩ v1).setCell ⟨W1.heap.size, 2, none⟩ v2).setCell ⟨W1.heap.size, 3, none⟩ v3) ∧
    Blk ((((w2.setCell ⟨W1.heap.size, 0, none⟩ v0).setCell ⟨W1.heap.size, 1, none⟩ v1).setCell ⟨W1.heap.size, 2, none⟩ v2).setCell ⟨W1.heap.size, 3, none⟩ v3) W1.heap.size #[v0, v1, v2, v3] T ∧ W1.heap.size ≤ W1.heap.size := by
  have h1 : Below W1.heap.size W1 w2 := below_any (Nat.le_refl _) (below_all (o := .cells #[x0, x1, x2, x3] T) (Below.refl _ _)) (bdrew hb)
  have h2 : Blk w2 W1.heap.size #[x0, x1, x2, x3] T := Blk.below (Blk.new W1 _ _) (bdrew hb)
  refine ⟨?_, (((h2.set 0 v0).set 1 v1).set 2 v2).set 3 v3, Nat.le_refl _⟩
  exact (((h1.setCell (p := ⟨W1.heap.size, 0, none⟩) (Nat.le_refl _) _).setCell (p := ⟨W1.heap.size, 1, none⟩) (Nat.le_refl _) _).setCell (p := ⟨W1.heap.size, 2, none⟩) (Nat.le_refl _) _).setCell (p := ⟨W1.heap.size, 3, none⟩) (Nat.le_refl _) _
set_option maxHeartbeats 1000000 in
set_option maxRecDepth 100000 in
theorem record7 (s : List UInt8) (at_ : Int) (bad : Bool) (b : Nat) (w : World) (hr : Rd7 w b s at_ bad) (hl : s.length ≤ maxLen) :
    Rd7Call 45 #[.pointer (some ⟨b, 0, none⟩)] w b s (.agg #[.bool (crec s at_ bad).1.hk, .string (S (crec s at_ bad).1.key), .bool (crec s at_ bad).1.tb, .string (S (crec s at_ bad).1.val)]) (crec s at_ bad).2.1 (crec s at_ bad).2.2 := by
  refine Rd7Call.intro fun R hR => ?_
  unfold crec at hR
  have cG := fun w => get3_any s at_ w hl
  generalize mget s at_ = m at *
  obtain ⟨⟨hk, k, tb, v⟩, to, e⟩ := m
  clear hl
  simp only at hR cG
  have hb := Blk.lt hr
  have A1 := Blk.new w #[.bool false, .string (S []), .bool false, .string (S [])] 68
  have hr1 := Blk.alloc hr (.cells #[.bool false, .string (S []), .bool false, .string (S [])] 68)
  have g1 : w.grownBy (w.alloc (.cells #[.bool false, .string (S []), .bool false, .string (S [])] 68)) (some b) := World.grownBy_alloc w _ _
  have z1 : (w.alloc (.cells #[.bool false, .string (S []), .bool false, .string (S [])] 68)).heap.size = w.heap.size + 1 := by simp
  go_enter Try.func45, Try.ntmps45
  go_wp2_with fail
  generalize w.alloc (.cells #[.bool false, .string (S []), .bool false, .string (S [])] 68) = W1 at hr1 A1 g1 z1 ⊢
  obtain ⟨hlt, c0, c1, c2⟩ := Blk.c3 hr1
  obtain ⟨y0, y1, y2, y3, y4⟩ := A1.c4
  have f1 : ∀ i, W1.frozen? ⟨b, i, none⟩ = false := fun i => Blk.frozen hr1 i
  have f2 : ∀ i, W1.frozen? ⟨w.heap.size, i, none⟩ = false := fun i => Blk.frozen A1 i
  have Z1 := Lib.hid z1
  clear z1 hb y1 y2 y3 y4
  go_region_with (go_at_call 72; refine (cG _).use ?_; intro w2 hb2; have hc0 := fun (i : Nat) (h : W1.heap.size < _) => hb2.cell (p := ⟨W1.heap.size, i, none⟩) h; have hf0 := fun (i : Nat) (h : W1.heap.size < _) => hb2.frozen (p := ⟨W1.heap.size, i, none⟩) h)
  all_goals
    first
    | (obtain ⟨P1, P2, P3⟩ := frA (W1 := W1) #[.bool hk, .string (S k), .bool tb, .string (S v)] 68 hb2
       clear hb2 hc0 hf0
       generalize w2.alloc (.cells #[.bool hk, .string (S k), .bool tb, .string (S v)] 68) = W at P1 P2 ⊢
       generalize w2.heap.size = X at P2 P3 ⊢)
    | (obtain ⟨P1, P2, P3⟩ := frB (.bool hk) (.string (S k)) (.bool tb) (.string (S v)) hb2
       clear hb2 hc0 hf0
       generalize (((w2.setCell ⟨W1.heap.size, 0, none⟩ (.bool hk)).setCell ⟨W1.heap.size, 1, none⟩ (.string (S k))).setCell ⟨W1.heap.size, 2, none⟩ (.bool tb)).setCell ⟨W1.heap.size, 3, none⟩ (.string (S v)) = W at P1 P2 ⊢
       obtain ⟨X, hX⟩ : ∃ X, W1.heap.size = X := ⟨_, rfl⟩
       rw [hX] at P2 P3 ⊢)
    have r2 := Blk.below hr1 P1
    have A2 := A1.below P1
    have G2 := grown_below g1 P1
    have nb : w.heap.size ≠ b := by intro e1; rw [e1] at A1; unfold Blk at A1 hr1; rw [hr1] at A1; simp at A1
    have nx : X ≠ b := by omega
    have ny : X ≠ w.heap.size := by have := Z1.out; omega
    have nm : w.heap.size ≤ X := by have := Z1.out; omega
    clear c0 c1 c2 f1 f2 y0 hlt hr1 A1 g1 P1 P3 Z1 hr
    obtain ⟨hlt, c0, c1, c2⟩ := Blk.c3 r2
    obtain ⟨x0, x1, x2, x3, x4⟩ := P2.c4
    obtain ⟨y0, y1, y2, y3, y4⟩ := A2.c4
    have f1 : ∀ i, W.frozen? ⟨b, i, none⟩ = false := fun i => Blk.frozen r2 i
    have f2 : ∀ i, W.frozen? ⟨w.heap.size, i, none⟩ = false := fun i => Blk.frozen A2 i
    have HR := hR
    cases bad
    · by_cases he : e = 0
      · subst he
        rw [if_neg (by simp)] at HR
        go_wp2_with fail
        refine bodyPost_ret (results_cell_row rfl _ _ w.heap.size 68 #[.bool hk, .string (S k), .bool tb, .string (S v)] (0, 0) _ rfl ?c1 Try.underlying68 rfl (by kernel_rfl)) rfl ?_
        case c1 => exact (((((A2.setOther (a := ⟨b, 2, none⟩) nb _).setOther (a := ⟨b, 1, none⟩) nb _).set 0 (.bool hk)).set 1 (.string (S k))).set 2 (.bool tb)).set 3 (.string (S v))
        exact finR7 HR ((((((r2.set 2 (.bool false)).set 1 (.int .i64 to)).setOther (Ne.symm nb) _).setOther (Ne.symm nb) _).setOther (Ne.symm nb) _).setOther (Ne.symm nb) _) (grown_own (grown_own (grown_own (grown_own (grown_set (grown_set G2 _ _) _ _) (Nat.le_refl _) _ _) (Nat.le_refl _) _ _) (Nat.le_refl _) _ _) (Nat.le_refl _) _ _) rfl
      · rw [if_pos (by simp [he])] at HR
        have h1 : (e != 0) = true := by simpa using he
        clear he
        go_wp2_with fail
        refine bodyPost_ret (results_cell_row rfl _ _ w.heap.size 68 #[.bool false, .string (S []), .bool false, .string (S [])] (0, 0) _ rfl ?c1 Try.underlying68 rfl (by kernel_rfl)) rfl ?_
        case c1 => exact ((((A2.setOther (a := ⟨b, 2, none⟩) nb _).set 0 (.bool false)).set 1 (.string (S []))).set 2 (.bool false)).set 3 (.string (S []))
        exact finR7 HR (((((r2.set 2 (.bool true)).setOther (Ne.symm nb) _).setOther (Ne.symm nb) _).setOther (Ne.symm nb) _).setOther (Ne.symm nb) _) (grown_own (grown_own (grown_own (grown_own (grown_set G2 _ _) (Nat.le_refl _) _ _) (Nat.le_refl _) _ _) (Nat.le_refl _) _ _) (Nat.le_refl _) _ _) rfl
    · rw [if_pos (by simp)] at HR
      go_wp2_with fail
      refine bodyPost_ret (results_cell_row rfl _ _ w.heap.size 68 #[.bool false, .string (S []), .bool false, .string (S [])] (0, 0) _ rfl ?c1 Try.underlying68 rfl (by kernel_rfl)) rfl ?_
      case c1 => exact ((((A2.setOther (a := ⟨b, 2, none⟩) nb _).set 0 (.bool false)).set 1 (.string (S []))).set 2 (.bool false)).set 3 (.string (S []))
      exact finR7 HR (((((r2.set 2 (.bool true)).setOther (Ne.symm nb) _).setOther (Ne.symm nb) _).setOther (Ne.symm nb) _).setOther (Ne.symm nb) _) (grown_own (grown_own (grown_own (grown_own (grown_set G2 _ _) (Nat.le_refl _) _ _) (Nat.le_refl _) _ _) (Nat.le_refl _) _ _) (Nat.le_refl _) _ _) rfl
end Go.Proofs.Ytohplhahghilaaa
