/-
  Layer 3: the reader's methods: contracts.
-/
import Derived.Test.YtikcpfoehapndaaRecN
import Derived.Test.YtikcpfoehapndaaText1
import Derived.Deep.RegionHeld3
import Derived.Deep.QuietTactic
import Derived.BigQuiet
set_option linter.unusedVariables false
set_option linter.unusedSimpArgs false
namespace Go.Proofs.Ytikcpfoehapndaa
open Go.RowKit
attribute [local go_sem] ByteArray.extract_mk ByteArray.mk_append_mk

theorem Blk.dN {w : World} {b n : Nat} {cs : Array Value} {T : TypeId} (h : Blk w b cs T) : Blk (w.drewN n) b cs T := h
theorem grown_dN {a w : World} {n : Nat} {row : Option Nat} (h : a.grownBy w row) : a.grownBy (w.drewN n) row := ⟨h.os, h.tape, h.output, h.size, h.block⟩
/-- A reader: its bytes, where it stands, what is wrong. -/
def Rd (w : World) (b : Nat) (s : List UInt8) (at_ e : Int) : Prop := Blk w b #[.string (S s), .int .i64 at_, .int .i64 e] 65
/-- A reader's method: it hands v back, and the reader stands elsewhere; else just new blocks. -/
def RdCall (f : FuncId) (args : Array Value) (w : World) (b : Nat) (s : List UInt8) (v : Value) (at_ e : Int) : Prop :=
  Calls Try.prog f args w fun x w' => x = .returned v ∧ Rd w' b s at_ e ∧ w.grownBy w' (some b)
theorem RdCall.intro {f : FuncId} {args : Array Value} {w : World} {b : Nat} {s : List UInt8} {v : Value} {at_ e : Int}
    (h : ∀ R : Ending → World → Prop, Hid (∀ w', Rd w' b s at_ e → w.grownBy w' (some b) → R (.returned v) w') → Calls Try.prog f args w R) : RdCall f args w b s v at_ e := h _ fun _ h1 h2 => ⟨rfl, h1, h2⟩
theorem RdCall.use {f : FuncId} {args : Array Value} {w : World} {b : Nat} {s : List UInt8} {v : Value} {at_ e : Int} {R : Ending → World → Prop}
    (h : RdCall f args w b s v at_ e) (k : ∀ w', Rd w' b s at_ e → w.grownBy w' (some b) → R (.returned v) w') : Calls Try.prog f args w R := h.mono fun x w' ⟨he, h1, h2⟩ => by subst he; exact k _ h1 h2
theorem finR {w w' : World} {b : Nat} {s : List UInt8} {v v' : Value} {at_ e : Int} {R : Ending → World → Prop} (h : Hid (∀ w', Rd w' b s at_ e → w.grownBy w' (some b) → R (.returned v) w')) (h1 : Rd w' b s at_ e) (h2 : w.grownBy w' (some b)) (e1 : v' = v) : R (.returned v') w' := e1 ▸ h _ h1 h2

set_option maxRecDepth 100000 in
theorem rd_text (s : List UInt8) (at_ e most : Int) (has : Bool) (b : Nat) (w : World) (hr : Rd w b s at_ e) (hl : s.length ≤ maxLen) (hm : most ≤ 9223372036854775807) :
    RdCall 46 #[.pointer (some ⟨b, 0, none⟩), .bool has, .int .i64 most] w b s (.string (S (mtext s at_ e has most).1)) (mtext s at_ e has most).2.1 (mtext s at_ e has most).2.2 := by
  refine RdCall.intro fun R hR => ?_
  obtain ⟨hlt, c0, c1, c2⟩ := Blk.c3 hr
  unfold mtext at hR
  by_cases he : e = 0
  · subst he
    cases has
    · rw [if_neg (by simp)] at hR
      go_enter Try.func46, Try.ntmps46
      go_wp2
      exact finR hR hr (grown_refl _ _) rfl
    · rw [if_pos ⟨rfl, rfl⟩] at hR
      obtain ⟨t, to, e, hv⟩ : ∃ t to e, vtext s at_ most = (t, to, e) := ⟨_, _, _, rfl⟩
      have cG := fun w => vtext_eq hv w hl hm
      rw [hv] at hR
      clear hv hl hm
      have f1 : ∀ i, w.frozen? ⟨b, i, none⟩ = false := fun i => Blk.frozen hr i
      go_enter Try.func46, Try.ntmps46
      go_wp2_with fail
      go_region_held3 (fun w' => w'.cell? ⟨b, 0, none⟩ = some (.string (S s)) ∧ w'.cell? ⟨b, 1, none⟩ = some (.int .i64 at_) ∧ w'.cell? ⟨b, 2, none⟩ = some (.int .i64 0)) (go_keep) ((go_at_call 50; refine (cG _).use ?_))
      go_wp2
      exact finR hR ((Blk.set (Blk.set hr 1 _) 2 _)) (grown_drew (grown_set (grown_set (grown_refl _ _) _ _) _ _)) rfl
  · rw [if_neg (by simp [he])] at hR
    have h1 : ((e : Int) == 0) = false := by simpa using he
    have h2 : ((e : Int) != 0) = true := by simpa using he
    clear he
    go_enter Try.func46, Try.ntmps46
    go_wp2
    exact finR hR hr (grown_refl _ _) rfl

set_option maxRecDepth 100000 in
theorem rd_number (s : List UInt8) (at_ e : Int) (b : Nat) (w : World) (hr : Rd w b s at_ e) (hl : s.length ≤ maxLen) :
    RdCall 47 #[.pointer (some ⟨b, 0, none⟩)] w b s (.int .u64 (mnum s at_ e).1) (mnum s at_ e).2.1 (mnum s at_ e).2.2 := by
  refine RdCall.intro fun R hR => ?_
  obtain ⟨hlt, c0, c1, c2⟩ := Blk.c3 hr
  unfold mnum at hR
  by_cases he : e = 0
  · subst he
    rw [if_pos rfl] at hR
    obtain ⟨n, to, e, hv⟩ : ∃ n to e, vget s at_ = (n, to, e) := ⟨_, _, _, rfl⟩
    have cG := fun w => vget_eq hv w hl
    rw [hv] at hR
    clear hv hl
    have f1 : ∀ i, w.frozen? ⟨b, i, none⟩ = false := fun i => Blk.frozen hr i
    go_enter Try.func47, Try.ntmps47
    go_wp2_with fail
    go_region_held3 (fun w' => w'.cell? ⟨b, 0, none⟩ = some (.string (S s)) ∧ w'.cell? ⟨b, 1, none⟩ = some (.int .i64 at_) ∧ w'.cell? ⟨b, 2, none⟩ = some (.int .i64 0)) (go_keep) ((go_at_call 51; refine (cG _).use ?_))
    go_wp2
    exact finR hR ((Blk.set (Blk.set hr 1 _) 2 _)) (grown_drew (grown_set (grown_set (grown_refl _ _) _ _) _ _)) rfl
  · rw [if_neg he] at hR
    have h1 : ((e : Int) == 0) = false := by simpa using he
    have h2 : ((e : Int) != 0) = true := by simpa using he
    clear he
    go_enter Try.func47, Try.ntmps47
    go_wp2
    exact finR hR hr (grown_refl _ _) rfl

set_option maxHeartbeats 1000000 in
set_option maxRecDepth 100000 in
theorem rd_first (s : List UInt8) (at_ e : Int) (b : Nat) (w : World) (hr : Rd w b s at_ e) (hl : s.length ≤ maxLen) :
    RdCall 45 #[.pointer (some ⟨b, 0, none⟩)] w b s (.int .u8 (mfirst s at_ e).1) (mfirst s at_ e).2.1 (mfirst s at_ e).2.2 := by
  refine RdCall.intro fun R hR => ?_
  obtain ⟨hlt, c0, c1, c2⟩ := Blk.c3 hr
  have f1 : ∀ i, w.frozen? ⟨b, i, none⟩ = false := fun i => Blk.frozen hr i
  unfold maxLen at hl
  unfold mfirst at hR
  by_cases he : e = 0
  · subst he
    rw [if_neg (by simp)] at hR
    by_cases hp : 0 ≤ at_ ∧ at_ ≤ s.length
    · rw [if_neg (by simpa using hp)] at hR
      obtain ⟨h0, h1⟩ := hp
      obtain ⟨k, rfl⟩ := Int.eq_ofNat_of_zero_le h0
      rw [Int.toNat_natCast] at hR
      by_cases hk : k = s.length
      · rw [List.drop_eq_nil_of_le (by omega)] at hR
        have d1 : decide ((k : Int) < 0) = false := by simp
        have d2 : decide (s.length < k) = false := by simp; omega
        have d3 : ((k : Int) == (s.length : Int)) = true := by simp; omega
        clear hk h0 h1
        go_enter Try.func45, Try.ntmps45
        go_wp2
        go_quiet (fail)
        go_wp2
        go_quiet (fail)
        go_wp2
        exact finR hR (by repeat (first | exact hr | refine Blk.dN ?_ | exact Blk.set hr _ _ | exact Blk.set (Blk.dN hr) _ _ | exact Blk.set (Blk.dN (Blk.set (Blk.dN hr) _ _)) _ _ | exact Blk.set (Blk.set (Blk.dN hr) _ _) _ _)) (by repeat (first | exact grown_refl _ _ | refine grown_dN ?_ | refine grown_set ?_ _ _)) rfl
      · have hlt2 : k < s.length := by omega
        rw [List.drop_eq_getElem_cons hlt2] at hR
        simp only at hR
        have d1 : decide ((k : Int) < 0) = false := by simp
        have d2 : decide (s.length < k) = false := by simp; omega
        have d3 : ((k : Int) == (s.length : Int)) = false := by simp; omega
        have g1 : (k : Int) < (s.length : Int) := by omega
        obtain ⟨c, hc⟩ : ∃ c, ((S s)[k]'(by rw [S_size]; exact hlt2)).toNat = c := ⟨_, rfl⟩
        have hc' : (s[k]'hlt2).toNat = c := hc
        have hb : c < 256 := by rw [← hc]; exact UInt8.toNat_lt _
        rw [hc'] at hR
        clear hk h0 h1 hc'
        by_cases e0 : c = 0 ∨ c = 1 ∨ c = 3
        · rw [if_pos e0] at hR
          rcases e0 with rfl | rfl | rfl
          all_goals
            go_enter Try.func45, Try.ntmps45
            go_wp2
            go_quiet (fail)
            go_wp2
            go_quiet (fail)
            go_wp2
            go_quiet (fail)
            go_wp2
            exact finR hR (by repeat (first | exact hr | refine Blk.dN ?_ | exact Blk.set hr _ _ | exact Blk.set (Blk.dN hr) _ _ | exact Blk.set (Blk.dN (Blk.set (Blk.dN hr) _ _)) _ _ | exact Blk.set (Blk.set (Blk.dN hr) _ _) _ _)) (by repeat (first | exact grown_refl _ _ | refine grown_dN ?_ | refine grown_set ?_ _ _)) rfl
        · rw [if_neg e0] at hR
          have x0 : ((c : Int) == 0) = false := by simp; omega
          have x1 : ((c : Int) == 1) = false := by simp; omega
          have x3 : ((c : Int) == 3) = false := by simp; omega
          have y0 : ((c : Int) != 0) = true := by simp; omega
          have y1 : ((c : Int) != 1) = true := by simp; omega
          have y3 : ((c : Int) != 3) = true := by simp; omega
          clear e0
          go_enter Try.func45, Try.ntmps45
          go_wp2
          go_quiet (fail)
          go_wp2
          go_quiet (fail)
          go_wp2
          go_quiet (fail)
          go_wp2
          exact finR hR (by repeat (first | exact hr | refine Blk.dN ?_ | exact Blk.set hr _ _ | exact Blk.set (Blk.dN hr) _ _ | exact Blk.set (Blk.dN (Blk.set (Blk.dN hr) _ _)) _ _ | exact Blk.set (Blk.set (Blk.dN hr) _ _) _ _)) (by repeat (first | exact grown_refl _ _ | refine grown_dN ?_ | refine grown_set ?_ _ _)) rfl
    · rw [if_pos hp] at hR
      by_cases h0 : at_ < 0
      · have d1 : decide (at_ < 0) = true := by simpa using h0
        clear hp
        go_enter Try.func45, Try.ntmps45
        go_wp2_with fail
        go_quiet (fail)
        go_wp2
        exact finR hR (by repeat (first | exact hr | refine Blk.dN ?_ | exact Blk.set hr _ _ | exact Blk.set (Blk.dN hr) _ _ | exact Blk.set (Blk.dN (Blk.set (Blk.dN hr) _ _)) _ _ | exact Blk.set (Blk.set (Blk.dN hr) _ _) _ _)) (by repeat (first | exact grown_refl _ _ | refine grown_dN ?_ | refine grown_set ?_ _ _)) rfl
      · have h1 : (s.length : Int) < at_ := by omega
        have d1 : decide (at_ < 0) = false := by simpa using h0
        clear hp
        go_enter Try.func45, Try.ntmps45
        go_wp2_with fail
        go_quiet (fail)
        go_wp2
        exact finR hR (by repeat (first | exact hr | refine Blk.dN ?_ | exact Blk.set hr _ _ | exact Blk.set (Blk.dN hr) _ _ | exact Blk.set (Blk.dN (Blk.set (Blk.dN hr) _ _)) _ _ | exact Blk.set (Blk.set (Blk.dN hr) _ _) _ _)) (by repeat (first | exact grown_refl _ _ | refine grown_dN ?_ | refine grown_set ?_ _ _)) rfl
  · rw [if_pos he] at hR
    have h1 : ((e : Int) == 0) = false := by simpa using he
    have h2 : ((e : Int) != 0) = true := by simpa using he
    clear he
    go_enter Try.func45, Try.ntmps45
    go_wp2
    exact finR hR hr (grown_refl _ _) rfl
end Go.Proofs.Ytikcpfoehapndaa
