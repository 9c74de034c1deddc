import Derived.Test.YtkgpckfaghpgmaaSegA
import Derived.Test.YtkgpckfaghpgmaaRecB
/-
  Layer 5: numbers, records checked, a new segment, records appended.
-/
set_option linter.unusedVariables false
set_option linter.unusedSimpArgs false
namespace Go.Proofs.Ytkgpckfaghpgmaa
open Go.RowKit
attribute [local go_sem] ByteArray.extract_mk ByteArray.mk_append_mk

/-- A new segment is handed back. -/
def SegNew (f : FuncId) (args : Array Value) (w : World) (base next : Int) (l : List Fnd) : Prop :=
  Calls Try.prog f args w fun x w' => ∃ p bs, x = .returned (.tuple #[.pointer (some ⟨p, 0, none⟩), .int .i64 0]) ∧ SegAt w' p bs base next l ∧ Below w.heap.size w w' ∧ ∀ x ∈ bs, w.heap.size ≤ x
theorem SegNew.intro {f : FuncId} {args : Array Value} {w : World} {base next : Int} {l : List Fnd}
    (h : ∀ R : Ending → World → Prop, Hid (∀ p bs w', SegAt w' p bs base next l → Below w.heap.size w w' → (∀ x ∈ bs, w.heap.size ≤ x) → R (.returned (.tuple #[.pointer (some ⟨p, 0, none⟩), .int .i64 0])) w') → Calls Try.prog f args w R) : SegNew f args w base next l :=
  h _ fun p bs w' h1 h2 h3 => ⟨p, bs, rfl, h1, h2, h3⟩
theorem SegNew.use {f : FuncId} {args : Array Value} {w : World} {base next : Int} {l : List Fnd} {R : Ending → World → Prop} (h : SegNew f args w base next l)
    (k : ∀ p bs w', SegAt w' p bs base next l → Below w.heap.size w w' → (∀ x ∈ bs, w.heap.size ≤ x) → R (.returned (.tuple #[.pointer (some ⟨p, 0, none⟩), .int .i64 0])) w') : Calls Try.prog f args w R :=
  h.mono fun x w' ⟨p, bs, he, h1, h2, h3⟩ => by subst he; exact k p bs w' h1 h2 h3

set_option maxHeartbeats 1000000 in
theorem offset5 (n : Int) (w : World) : Ret Try.prog 28 #[.int .i64 n] w (.bool (numB n)) := by
  refine Ret.intro fun R hR => ?_
  unfold numB at hR
  by_cases h1 : 0 ≤ n
  · by_cases h2 : n ≤ 1099511627776
    · rw [decide_eq_true h1, decide_eq_true h2] at hR
      go_enter Try.func28, Try.ntmps28
      go_wp2
      exact fin hR rfl
    · rw [decide_eq_true h1, decide_eq_false h2] at hR
      go_enter Try.func28, Try.ntmps28
      go_wp2
      exact fin hR rfl
  · rw [decide_eq_false h1] at hR
    go_enter Try.func28, Try.ntmps28
    go_wp2
    exact fin hR rfl

set_option maxHeartbeats 1000000 in
theorem new5_ok (n : Int) (w : World) (h : numB n = true) : SegNew 15 #[.int .i64 n] w n n [] := by
  refine SegNew.intro fun R hR => ?_
  have c := fun w => offset5 n w
  rw [h] at c
  go_enter Try.func15, Try.ntmps15
  go_wp2_with fail
  refine (c _).use ?_
  go_wp2_with fail
  refine hR.out _ [w.heap.size] _ ⟨.slice none 0 0, .slice none 0 0, Blk.new _ _ _, World.ownsRow_nil _ _ _ _, World.ownsRow_nil _ _ _ _, rfl⟩ (below_all (Below.refl _ _)) (by simp)
set_option maxHeartbeats 1000000 in
theorem new5_no (n : Int) (w : World) (h : numB n = false) : RetB Try.prog 15 #[.int .i64 n] w (.tuple #[.pointer none, .int .i64 1]) := by
  refine RetB.intro fun R hR => ?_
  have c := fun w => offset5 n w
  rw [h] at c
  go_enter Try.func15, Try.ntmps15
  go_wp2_with fail
  refine (c _).use ?_
  go_wp2_with fail
  exact finB hR (Below.refl _ _) rfl

set_option maxHeartbeats 2000000 in
theorem checked5 (v : Value) (l : List Rec) (w : World) (hl : RecsIn w v l) (hbd : RecsBd l) : RetB Try.prog 30 #[v] w (.int .i64 (rchecks l)) := by
  refine RetB.intro fun R hR => ?_
  have hlen : l.length ≤ 9223372036854775807 := by have := hbd.1; unfold maxLen at this; omega
  rcases hl with ⟨rfl, a, cap, rfl⟩ | ⟨b, off, cap, rfl, _, hlt, hc⟩
  · have hr : rchecks [] = 0 := rfl
    rw [hr] at hR
    go_enter Try.func30, Try.ntmps30
    go_wp2_with fail
    refine wp_loop_rounds 1 ?_
    rw [rounds_succ]
    go_wp2_with fail
    exact finB hR (Below.refl _ _) rfl
  · have HC := Lib.hid hc
    have HB := Lib.hid hbd
    clear hc hbd
    go_enter Try.func30, Try.ntmps30
    go_wp2_with fail
    go_loopw [4, 5, 8] (fun (v4 v5 v8 : Value) (wr : World) => ∃ k : Nat, k ≤ l.length ∧ v8 = .int .i64 (k : Int) ∧ Hid (rchecks (l.drop k) = rchecks l) ∧ Below w.heap.size w wr) (fun (v4 v5 v8 : Value) (wr : World) => (l.length - intOf v8).toNat)
    case atStart => exact ⟨0, by omega, rfl, rfl, Below.refl _ _⟩
    case round =>
      obtain ⟨k, hk, rfl, hch, hnx⟩ := hrel
      by_cases hkl : k < l.length
      · have hbk := HB.out.2 _ (List.getElem_mem hkl)
        obtain ⟨c0, c1, c2, c3⟩ := (HC.out k hkl).keep fun j => hnx.cell (p := ⟨b, j, none⟩) hlt
        have hltr : b < wr.heap.size := Nat.lt_of_lt_of_le hlt hnx.size
        have hcc := fun w => check_any l[k].hk l[k].tb l[k].key l[k].val w hbk.1 hbk.2
        have hok : rcheck l[k].hk l[k].key l[k].tb l[k].val = l[k].ok := rfl
        rw [hok] at hcc
        have hst := fun h => Lib.hid (rchecks_step hkl h)
        have hsp := fun h => Lib.hid (rchecks_stop hkl h)
        clear hok hbk
        generalize l[k] = r at *
        obtain ⟨o, ho⟩ : ∃ o, r.ok = o := ⟨_, rfl⟩
        rw [ho] at hcc hst hsp
        have hnx1 := below_all (o := .cells #[.bool r.hk, .string (S r.key), .bool r.tb, .string (S r.val)] 24) hnx
        by_cases h0 : o = 0
        · subst h0
          have hst0 := hst rfl
          have hcc : ∀ w, RetB Try.prog 41 _ w (.int .i64 0) := hcc
          clear hsp hst
          go_wp2_with fail
          refine (hcc _).use ?_
          intro w2 hb2
          have hnx2 := below_any (Nat.le_refl _) hnx1 hb2
          go_wp2_with fail
          go_roundw
          case rel => exact ⟨k + 1, by omega, by go_num, Lib.hid (hst0.out.trans hch.out), hnx2⟩
          case measure => simp [intOf]; omega
        · have hsp0 := hsp h0
          have hne : ((o : Int) != 0) = true := by simp; omega
          have hne2 : (o != 0) = true := by simp; omega
          clear hst hsp
          go_wp2_with fail
          refine (hcc _).use ?_
          intro w2 hb2
          have hnx2 := below_any (Nat.le_refl _) hnx1 hb2
          go_wp2_with fail
          exact finB hR hnx2 (veq_int (by rw [← hch.out, hsp0.out]))
      · have he : Hid (rchecks l = 0) := Lib.hid (by rw [← hch.out]; exact rchecks_end (by omega))
        rw [he.out] at hR
        go_wp2_with fail
        exact finB hR hnx rfl
end Go.Proofs.Ytkgpckfaghpgmaa
