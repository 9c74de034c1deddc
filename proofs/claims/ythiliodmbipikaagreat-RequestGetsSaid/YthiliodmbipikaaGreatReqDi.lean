/-
  Layer 4, the document: its reader, a number, a text.
-/
import Derived.Test.YthiliodmbipikaaGreatReqK1
import Derived.Test.YthiliodmbipikaaGreatVarX
set_option linter.unusedVariables false
set_option linter.unusedSimpArgs false
namespace Go.Proofs.YthiliodmbipikaaGreat
open Go.RowKit
attribute [local go_sem] ByteArray.extract_mk ByteArray.mk_append_mk

/-- The document's reader's cells. -/
def inr (s : List UInt8) (a : Int) (bad : Bool) : Array Value := #[.string (S s), .int .i64 a, .bool bad]
def be (b : Bool) : Int := if b then 1 else 0
/-- A call of the document's reader. -/
def IC (f : FuncId) (s : List UInt8) (p : Nat) (w : World) (St : Value → Int → Bool → Prop) : Prop :=
  Calls Tryz.prog f #[.pointer (some ⟨p, 0, none⟩)] w fun x w' => ∃ v a' bad', x = .returned v ∧ Blk w' p (inr s a' bad') 40 ∧ KeptR [p] w w' ∧ St v a' bad'
section
variable {f : FuncId} {s : List UInt8} {p : Nat} {w : World} {St : Value → Int → Bool → Prop}
theorem IC.intro (h : ∀ R : Ending → World → Prop, Hid (∀ w' v a' bad', Blk w' p (inr s a' bad') 40 → KeptR [p] w w' → St v a' bad' → R (.returned v) w') → Calls Tryz.prog f #[.pointer (some ⟨p, 0, none⟩)] w R) : IC f s p w St :=
  h _ fun w' v a' bad' h1 h2 h3 => ⟨v, a', bad', rfl, h1, h2, h3⟩
theorem IC.use {R : Ending → World → Prop} (h : IC f s p w St) (k : ∀ w' v a' bad', Blk w' p (inr s a' bad') 40 → KeptR [p] w w' → St v a' bad' → R (.returned v) w') : Calls Tryz.prog f #[.pointer (some ⟨p, 0, none⟩)] w R :=
  h.mono fun x w' ⟨v, a', bad', he, h1, h2, h3⟩ => by subst he; exact k w' v a' bad' h1 h2 h3
end
/-- A number, read. -/
def NumD (s : List UInt8) (a : Int) (bad : Bool) : Value → Int → Bool → Prop := fun v a' bad' => ∃ n : Int, v = .int .i64 n ∧ (0 ≤ n ∧ n ≤ 1099511627776) ∧ Step s (fun n : Int => vput n.toNat) (fun n => 0 ≤ n ∧ n ≤ 1099511627776) a (be bad) n a' (be bad')
/-- A text, read. -/
def TxtD (s : List UInt8) (a : Int) (bad : Bool) : Value → Int → Bool → Prop := fun v a' bad' => ∃ t : List UInt8, v = .string (S t) ∧ t.length ≤ 16 ∧ Step s vtxt (fun l => l.length ≤ 16) a (be bad) t a' (be bad')
theorem be_zero {b : Bool} (h : be b = 0) : b = false := by cases b <;> simp [be] at h ⊢
theorem step_badD {α : Type} {s : List UInt8} {enc : α → List UInt8} {good : α → Prop} {a : Int} {x : α} {bad : Bool} (h : be bad = 0 → ∀ y b, good y → At s a (enc y) b → False) : Step s enc good a (be bad) x a (be true) :=
  ⟨fun y b h0 hy hat => (h h0 y b hy hat).elim, fun h => by simp [be] at h⟩
set_option maxHeartbeats 1000000 in
set_option maxRecDepth 100000 in
theorem in_num (s : List UInt8) (a : Int) (bad : Bool) (p : Nat) (w : World) (hl : s.length ≤ maxLen) (hp : Blk w p (inr s a bad) 40) : IC 8 s p w (NumD s a bad) := by
  refine IC.intro fun R hR => ?_
  obtain ⟨⟨n, to, e2⟩, hv⟩ : ∃ m, vget s a = m := ⟨_, rfl⟩
  have hn := (vget_bd s a).1
  have hgo := (vget_bd s a).2.1
  have hfull : Hid (∀ (y b : Int), 0 ≤ y ∧ y ≤ 1099511627776 → At s a (vput y.toNat) b → n = y.toNat ∧ to = b ∧ e2 = 0) := Lib.hid fun y b hy hat => by
    have h := at_vget hat (by omega)
    rw [hv] at h
    simp only [Prod.mk.injEq] at h
    exact h
  rw [hv] at hn hgo
  dsimp only at hn hgo
  have HGO := Lib.hid hgo
  have cG := Lib.hid (fun w => (rget_any s a w hl).cast (v' := .tuple #[.int .u64 n, .int .i64 to, .int .i64 e2]) (by rw [hv]))
  have HP := Lib.hid hp
  have hp0 := hp
  unfold inr at hp0
  obtain ⟨k0, x0, x1, x2⟩ := hp0.c3
  have fp : ∀ i, w.frozen? ⟨p, i, none⟩ = false := fun i => Blk.frozen hp i
  clear hp0 hp hv hgo hl
  cases bad
  case true =>
    have ST : NumD s a true (.int .i64 0) a true := ⟨0, rfl, ⟨by omega, by omega⟩, step_badD (fun h => by simp [be] at h)⟩
    have HST := Lib.hid ST
    clear ST
    go_enter Tryz.func8, Tryz.ntmps8
    go_wp2_with fail
    go_region_with (go_at_call 24; refine (show Ret _ _ _ _ _ from cG.out _).use ?_)
    all_goals go_wp2_with fail
    all_goals exact hR.out _ _ a true (by exact (Blk.drew HP.out).set 2 (.bool true)) ((KeptR.refl [p] w).drew'.set (by simp) 2 _) HST.out
  case false =>
    by_cases he : e2 = 0
    · by_cases hb : 1099511627776 < n
      · have ST : NumD s a false (.int .i64 0) a true := ⟨0, rfl, ⟨by omega, by omega⟩, step_badD (fun _ y b hy hat => by have := (hfull.out y b hy hat).1; omega)⟩
        have HST := Lib.hid ST
        have t1 : ((1099511627776 : Int) < (n : Int)) = True := eq_true (by omega)
        have t2 : (1099511627776 < n) = True := eq_true hb
        subst he
        clear ST hb hfull HGO
        go_enter Tryz.func8, Tryz.ntmps8
        go_wp2_with fail
        go_region_with (go_at_call 24; refine (show Ret _ _ _ _ _ from cG.out _).use ?_)
        all_goals go_wp2_with fail
        all_goals exact hR.out _ _ a true (by exact (Blk.drew HP.out).set 2 (.bool true)) ((KeptR.refl [p] w).drew'.set (by simp) 2 _) HST.out
      · have ST : NumD s a false (.int .i64 n) to false := ⟨n, rfl, ⟨by omega, by omega⟩, ⟨fun y b _ hy hat => by obtain ⟨h1, h2, h3⟩ := hfull.out y b hy hat; exact ⟨by omega, h2, rfl⟩, fun _ => ⟨rfl, HGO.out he⟩⟩⟩
        have HST := Lib.hid ST
        have t1 : ((1099511627776 : Int) < (n : Int)) = False := eq_false (by omega)
        have t2 : (1099511627776 < n) = False := eq_false hb
        have t3 : IntKind.i64.wrap (n : Int) = n := by rw [IntKind.wrap_i64]; omega
        subst he
        clear ST hb hfull HGO
        go_enter Tryz.func8, Tryz.ntmps8
        go_wp2_with fail
        go_region_with (go_at_call 24; refine (show Ret _ _ _ _ _ from cG.out _).use ?_)
        all_goals go_wp2_with fail
        all_goals exact hR.out _ _ to false (by exact (Blk.drew HP.out).set 1 (.int .i64 to)) ((KeptR.refl [p] w).drew'.set (by simp) 1 _) HST.out
    · have ST : NumD s a false (.int .i64 0) a true := ⟨0, rfl, ⟨by omega, by omega⟩, step_badD (fun _ y b hy hat => he (hfull.out y b hy hat).2.2)⟩
      have HST := Lib.hid ST
      have t1 : (e2 = 0) = False := eq_false he
      have t2 : (e2 == 0) = false := by simpa using he
      have t3 : (e2 != 0) = true := by simpa using he
      clear ST he hfull HGO
      go_enter Tryz.func8, Tryz.ntmps8
      go_wp2_with fail
      go_region_with (go_at_call 24; refine (show Ret _ _ _ _ _ from cG.out _).use ?_)
      all_goals go_wp2_with fail
      all_goals exact hR.out _ _ a true (by exact (Blk.drew HP.out).set 2 (.bool true)) ((KeptR.refl [p] w).drew'.set (by simp) 2 _) HST.out
set_option maxHeartbeats 1000000 in
set_option maxRecDepth 100000 in
theorem in_text (s : List UInt8) (a : Int) (bad : Bool) (p : Nat) (w : World) (hl : s.length ≤ maxLen) (hp : Blk w p (inr s a bad) 40) : IC 25 s p w (TxtD s a bad) := by
  refine IC.intro fun R hR => ?_
  obtain ⟨⟨t, to, e2⟩, hv⟩ : ∃ m, vtext s a 16 = m := ⟨_, rfl⟩
  have hgo : Hid (e2 = 0 → (0 ≤ a ∧ a < to ∧ to ≤ s.length) ∧ t.length ≤ 16) := Lib.hid (fun h => by
    subst h
    obtain ⟨h1, h2⟩ := vtext_at hv
    have h3 := vtxt_pos t
    obtain ⟨h4, h5, h6⟩ := h1.range
    exact ⟨by omega, by omega⟩)
  have hfull : Hid (∀ (y : List UInt8) (b : Int), y.length ≤ 16 → At s a (vtxt y) b → t = y ∧ to = b ∧ e2 = 0) := Lib.hid fun y b hy hat => by
    have h := at_vtext (most := 16) hat (by omega) (by omega)
    rw [hv] at h
    simp only [Prod.mk.injEq] at h
    exact h
  have cG := Lib.hid (fun w => rvtext_eq hv w hl (by omega))
  have HP := Lib.hid hp
  have hp0 := hp
  unfold inr at hp0
  obtain ⟨k0, x0, x1, x2⟩ := hp0.c3
  have fp : ∀ i, w.frozen? ⟨p, i, none⟩ = false := fun i => Blk.frozen hp i
  clear hp0 hp hv hl
  cases bad
  case true =>
    have HST : Hid (TxtD s a true (.string (S [])) a true) := Lib.hid ⟨[], rfl, by simp, step_badD (fun h => by simp [be] at h)⟩
    clear hgo hfull
    go_enter Tryz.func25, Tryz.ntmps25
    go_wp2_with fail
    go_region_with (go_at_call 49; refine (show Ret _ _ _ _ _ from cG.out _).use ?_)
    all_goals go_wp2_with fail
    all_goals exact hR.out _ _ a true (by exact (Blk.drew HP.out).set 2 (.bool true)) ((KeptR.refl [p] w).drew'.set (by simp) 2 _) HST.out
  case false =>
    by_cases he : e2 = 0
    · have HST : Hid (TxtD s a false (.string (S t)) to false) := Lib.hid ⟨t, rfl, (hgo.out he).2, ⟨fun y b _ hy hat => by obtain ⟨h1, h2, h3⟩ := hfull.out y b hy hat; exact ⟨h1, h2, rfl⟩, fun _ => ⟨rfl, (hgo.out he).1⟩⟩⟩
      subst he
      clear hgo hfull
      go_enter Tryz.func25, Tryz.ntmps25
      go_wp2_with fail
      go_region_with (go_at_call 49; refine (show Ret _ _ _ _ _ from cG.out _).use ?_)
      all_goals go_wp2_with fail
      all_goals exact hR.out _ _ to false (by exact (Blk.drew HP.out).set 1 (.int .i64 to)) ((KeptR.refl [p] w).drew'.set (by simp) 1 _) HST.out
    · have HST : Hid (TxtD s a false (.string (S [])) a true) := Lib.hid ⟨[], rfl, by simp, step_badD (fun _ y b hy hat => he (hfull.out y b hy hat).2.2)⟩
      have t1 : (e2 = 0) = False := eq_false he
      have t2 : (e2 == 0) = false := by simpa using he
      have t3 : (e2 != 0) = true := by simpa using he
      clear he hgo hfull
      go_enter Tryz.func25, Tryz.ntmps25
      go_wp2_with fail
      go_region_with (go_at_call 49; refine (show Ret _ _ _ _ _ from cG.out _).use ?_)
      all_goals go_wp2_with fail
      all_goals exact hR.out _ _ a true (by exact (Blk.drew HP.out).set 2 (.bool true)) ((KeptR.refl [p] w).drew'.set (by simp) 2 _) HST.out
end Go.Proofs.YthiliodmbipikaaGreat
