import Derived.Test.YtkgpckfaghpgmaaSegC
/-
  Layer 5: rows of records and of numbers copied; a place sought; records read.
-/
set_option linter.unusedVariables false
set_option linter.unusedSimpArgs false
namespace Go.Proofs.Ytkgpckfaghpgmaa
open Go.RowKit
attribute [local go_sem] ByteArray.extract_mk ByteArray.mk_append_mk

/-- Records with offsets, handed back in a row of the caller's own. -/
def FndsCall (f : FuncId) (args : Array Value) (w : World) (l : List Fnd) : Prop :=
  Calls Try.prog f args w fun x w' => ∃ v, x = .returned v ∧ w'.ownsRow w.heap.size 26 5 v l.length (l.flatMap Fnd.cells) ∧ Below w.heap.size w w'
theorem FndsCall.intro {f : FuncId} {args : Array Value} {w : World} {l : List Fnd}
    (h : ∀ R : Ending → World → Prop, Hid (∀ v w', w'.ownsRow w.heap.size 26 5 v l.length (l.flatMap Fnd.cells) → Below w.heap.size w w' → R (.returned v) w') → Calls Try.prog f args w R) : FndsCall f args w l :=
  h _ fun v w' h1 h2 => ⟨v, rfl, h1, h2⟩
theorem FndsCall.use {f : FuncId} {args : Array Value} {w : World} {l : List Fnd} {R : Ending → World → Prop} (h : FndsCall f args w l)
    (k : ∀ v w', w'.ownsRow w.heap.size 26 5 v l.length (l.flatMap Fnd.cells) → Below w.heap.size w w' → R (.returned v) w') : Calls Try.prog f args w R :=
  h.mono fun x w' ⟨v, he, h1, h2⟩ => by subst he; exact k v w' h1 h2
/-- Numbers, handed back in a row of the caller's own. -/
def NumsCall (f : FuncId) (args : Array Value) (w : World) (l : List Int) : Prop :=
  Calls Try.prog f args w fun x w' => ∃ v, x = .returned v ∧ w'.ownsRow w.heap.size 3 1 v l.length (l.map (Value.int .i64)) ∧ Below w.heap.size w w'
theorem NumsCall.intro {f : FuncId} {args : Array Value} {w : World} {l : List Int}
    (h : ∀ R : Ending → World → Prop, Hid (∀ v w', w'.ownsRow w.heap.size 3 1 v l.length (l.map (Value.int .i64)) → Below w.heap.size w w' → R (.returned v) w') → Calls Try.prog f args w R) : NumsCall f args w l :=
  h _ fun v w' h1 h2 => ⟨v, rfl, h1, h2⟩
theorem NumsCall.use {f : FuncId} {args : Array Value} {w : World} {l : List Int} {R : Ending → World → Prop} (h : NumsCall f args w l)
    (k : ∀ v w', w'.ownsRow w.heap.size 3 1 v l.length (l.map (Value.int .i64)) → Below w.heap.size w w' → R (.returned v) w') : Calls Try.prog f args w R :=
  h.mono fun x w' ⟨v, he, h1, h2⟩ => by subst he; exact k v w' h1 h2
theorem nnews_at {w : World} {b o : Nat} {l : List Int} (h : ∀ i, (h : i < l.length) → w.cell? ⟨b, o + i, none⟩ = some (.int .i64 l[i])) : ∀ j u, (l.map (Value.int .i64))[j]? = some u → w.cell? ((⟨b, o, none⟩ : Addr).add j) = some u := fun j u hj => by
  rw [addr_add]
  have hlt : j < l.length := by have := (List.getElem?_eq_some_iff.1 hj).1; simpa using this
  rw [h j hlt]
  simpa [hlt] using hj

set_option maxHeartbeats 2000000 in
theorem clone5 (v : Value) (l : List Fnd) (w : World) (hl : FndsIn w v l) (hb : l.length ≤ 1000000) : FndsCall 32 #[v] w l := by
  refine FndsCall.intro fun R hR => ?_
  obtain ⟨i0, hi, hz0, hz1, hz2⟩ := info_parts fndInfo
  have q22 : ∀ (w : World) (a : Option Addr) (n c n' c' : Nat), (binOp .eql 22 (.slice a n c) (.slice none n' c')).run Try.prog w = .ok (.bool a.isNone) w := fun w a n c n' c' => Lib.run_eql_slice_nil w _ _ a n c n' c' Try.underlying22
  obtain ⟨a, cap, rfl⟩ := hl.form
  cases a with
  | none =>
    have h0 : l = [] := by
      rcases hl with ⟨h, _⟩ | ⟨b, off, cap', h, _⟩
      · exact h
      · simp at h
    subst h0
    go_enter Try.func32, Try.ntmps32
    go_wp2_with fail
    exact hR.out _ _ (World.ownsRow_nil _ _ _ _) (Below.refl _ _)
  | some ad =>
    have hnew : ∀ o, ∀ j u, (l.flatMap Fnd.cells)[j]? = some u → (w.alloc o).cell? (ad.add j) = some u := fun o => by
      rcases hl with ⟨rfl, _⟩ | ⟨b, off, cap', h, _, _, hlt, hc⟩
      · intro j u hj; simp at hj
      · simp only [Value.slice.injEq, Option.some.injEq] at h
        obtain ⟨rfl, _, rfl⟩ := h
        exact fnews_at fun i h => (hc i h).keep fun k => (below_all (o := o) (Below.refl _ _)).cell (p := ⟨b, k, none⟩) hlt
    have hn := fcells_len l
    have o0 : (w.alloc (.cells #[] 26)).ownsRow w.heap.size 26 5 (.slice (some ⟨w.heap.size, 0, none⟩) 0 0) 0 [] := World.ownsRow_made w #[] 0 (Nat.le_refl _) (by omega) rfl
    clear hl
    go_enter Try.func32, Try.ntmps32
    go_wp2_with (at_builtin; refine wpList_append_own _ rfl _ _ 22 rfl w.heap.size 26 i0 _ 5 56 Try.underlying22 hi hz0 hz1 hz2 rfl (by decide) _ _ _ rfl o0 ad l.length cap (l.flatMap Fnd.cells) rfl hn (hnew _) (fcells_one _) (by unfold maxLen; omega) (by omega) (by simp) ?_)
    intro v' w1 o1 g1 z1
    go_wp2_with fail
    exact hR.out _ _ (by simpa using o1) (below_own (below_all (Below.refl _ _)) (Nat.le_refl _) (by simp) g1)

set_option maxHeartbeats 2000000 in
theorem cloneN5 (v : Value) (l : List Int) (w : World) (hl : NumsIn w v l) (hb : l.length ≤ 1000000) : NumsCall 40 #[v] w l := by
  refine NumsCall.intro fun R hR => ?_
  obtain ⟨i0, hi, hz0, hz1, hz2⟩ := info_parts intInfo
  have q22 : ∀ (w : World) (a : Option Addr) (n c n' c' : Nat), (binOp .eql 48 (.slice a n c) (.slice none n' c')).run Try.prog w = .ok (.bool a.isNone) w := fun w a n c n' c' => Lib.run_eql_slice_nil w _ _ a n c n' c' Try.underlying48
  obtain ⟨a, cap, rfl⟩ := hl.form
  cases a with
  | none =>
    have h0 : l = [] := by
      rcases hl with ⟨h, _⟩ | ⟨b, off, cap', h, _⟩
      · exact h
      · simp at h
    subst h0
    go_enter Try.func40, Try.ntmps40
    go_wp2_with fail
    exact hR.out _ _ (World.ownsRow_nil _ _ _ _) (Below.refl _ _)
  | some ad =>
    have hnew : ∀ o, ∀ j u, (l.map (Value.int .i64))[j]? = some u → (w.alloc o).cell? (ad.add j) = some u := fun o => by
      rcases hl with ⟨rfl, _⟩ | ⟨b, off, cap', h, _, _, hlt, hc⟩
      · intro j u hj; simp at hj
      · simp only [Value.slice.injEq, Option.some.injEq] at h
        obtain ⟨rfl, _, rfl⟩ := h
        exact nnews_at fun i h => ((below_all (o := o) (Below.refl _ _)).cell (p := ⟨b, off + i, none⟩) hlt).trans (hc i h)
    have o0 : (w.alloc (.cells #[] 3)).ownsRow w.heap.size 3 1 (.slice (some ⟨w.heap.size, 0, none⟩) 0 0) 0 [] := World.ownsRow_made w #[] 0 (Nat.le_refl _) (by omega) rfl
    clear hl
    go_enter Try.func40, Try.ntmps40
    go_wp2_with (at_builtin; refine wpList_append_own _ rfl _ _ 48 rfl w.heap.size 3 i0 _ 1 8 Try.underlying48 hi hz0 hz1 hz2 rfl (by decide) _ _ _ rfl o0 ad l.length cap (l.map (Value.int .i64)) rfl (by simp) (hnew _) (by simp [Value.oneCell']) (by unfold maxLen; omega) (by omega) (by simp) ?_)
    intro v' w1 o1 g1 z1
    go_wp2_with fail
    exact hR.out _ _ (by simpa using o1) (below_own (below_all (Below.refl _ _)) (Nat.le_refl _) (by simp) g1)

set_option maxHeartbeats 2000000 in
theorem close5 (p : Nat) (bs : List Nat) (base next : Int) (l : List Fnd) (fr : Int) (b2 b3 i : Nat) (w : World) (h : SegAt w p bs base next l) (h2 : w.cell? ⟨b2, 0, none⟩ = some (.pointer (some ⟨p, 0, none⟩))) (h3 : w.cell? ⟨b3, 0, none⟩ = some (.int .i64 fr)) (hi : i < (idx l).length) :
    Calls Try.prog 43 #[.int .i64 (i : Int), .pointer (some ⟨b2, 0, none⟩), .pointer (some ⟨b3, 0, none⟩)] w fun x w' => x = .returned (.bool (decide (fr < (idx l)[i]))) ∧ ∃ q, w' = w.drewN q := by
  obtain ⟨lv, iv, hp, hlo, hio, hbs⟩ := h
  obtain ⟨k, c0, c1, c2, c3⟩ := hp.c4
  have hn := nums_own hio
  rcases hn with ⟨h0, _⟩ | ⟨b, off, cap, rfl, _, _, hlt, hc⟩
  · rw [h0] at hi; simp at hi
  have hci := hc i hi
  have i1 : (0 : Int) ≤ (i : Int) := by omega
  have i2 : (i : Int) < ((idx l).length : Int) := by omega
  go_enter Try.func43, Try.ntmps43
  go_wp2_with fail
  go_quiet (fail)
  go_wp2_with fail
  go_ret
  exact ⟨rfl, _, rfl⟩

theorem drewN_add (w : World) (a b : Nat) : w.drewN (a + b) = (w.drewN a).drewN b := by simp [World.drewN, Nat.add_assoc]
set_option maxHeartbeats 4000000 in
/-- sort.Search with seek's closure: it draws; what it returns lies between what is not and what is. -/
theorem search5 (p : Nat) (bs : List Nat) (base next : Int) (l : List Fnd) (fr : Int) (b2 b3 : Nat) (w : World) (h : SegAt w p bs base next l) (h2 : w.cell? ⟨b2, 0, none⟩ = some (.pointer (some ⟨p, 0, none⟩))) (h3 : w.cell? ⟨b3, 0, none⟩ = some (.int .i64 fr)) (hl : l.length ≤ 100000) :
    Calls Try.prog 42 #[.int .i64 ((idx l).length : Nat), .func (.func 43) #[] #[.pointer (some ⟨b2, 0, none⟩), .pointer (some ⟨b3, 0, none⟩)]] w fun x w' => ∃ k : Nat, x = .returned (.int .i64 (k : Int)) ∧ (k ≤ (idx l).length ∧ ∀ h : 0 < k, ∀ h' : k - 1 < (idx l).length, (idx l)[k - 1] ≤ fr) ∧ ∃ q, w' = w.drewN q := by
  have hil := idx_len l
  have cC := fun (q i : Nat) (hi : i < (idx l).length) => close5 p bs base next l fr b2 b3 i (w.drewN q) h h2 h3 hi
  have CC := Lib.hid cC
  clear cC h h2 h3
  generalize idx l = xs at CC hil ⊢
  go_enter Try.func42, Try.ntmps42
  go_wp2_with fail
  go_loopw [5, 6, 7] (fun (v5 v6 v7 : Value) (W : World) => ∃ (i j q : Nat), v5 = .int .i64 (i : Int) ∧ v6 = .int .i64 (j : Int) ∧ i ≤ j ∧ j ≤ xs.length ∧ Hid (∀ h : 0 < i, ∀ h' : i - 1 < xs.length, xs[i - 1] ≤ fr) ∧ W = w.drewN q) (fun (v5 v6 v7 : Value) (W : World) => (intOf v6 - intOf v5).toNat)
  case atStart => exact ⟨0, xs.length, 0, rfl, rfl, by omega, by omega, Lib.hid (fun h => by omega), rfl⟩
  case round =>
    obtain ⟨i, j, q, rfl, rfl, hij, hjn, hlo, rfl⟩ := hrel
    by_cases hlt : i < j
    · obtain ⟨m, hm⟩ : ∃ m, (i + j) / 2 = m := ⟨_, rfl⟩
      have hmi : i ≤ m ∧ m < j := by omega
      have e2 : ((i : Int) + (j : Int)) / 2 = (m : Int) := by omega
      have c := CC.out q m (by omega)
      obtain ⟨x, hx⟩ : ∃ x, xs[m]'(by omega) = x := ⟨_, rfl⟩
      rw [hx] at c
      have hs : ¬ fr < x → Hid (∀ h : 0 < m + 1, ∀ h' : m + 1 - 1 < xs.length, xs[m + 1 - 1] ≤ fr) := fun hn => Lib.hid fun _ _ => by simp only [Nat.add_sub_cancel]; omega
      clear hm hx
      by_cases hf : fr < x
      · rw [decide_eq_true hf] at c
        clear hs
        go_wp2_with fail
        refine c.mono ?_
        rintro e w' ⟨rfl, q2, rfl⟩
        go_wp2_with fail
        go_roundw
        case rel => exact ⟨i, m, q + q2, rfl, rfl, by omega, by omega, hlo, by rw [drewN_add]⟩
        case measure => simp [intOf]; omega
      · rw [decide_eq_false hf] at c
        have hs0 := hs hf
        clear hs
        go_wp2_with fail
        refine c.mono ?_
        rintro e w' ⟨rfl, q2, rfl⟩
        go_wp2_with fail
        go_roundw
        case rel => exact ⟨m + 1, j, q + q2, by go_num, rfl, by omega, by omega, hs0, by rw [drewN_add]⟩
        case measure => simp [intOf]; omega
    · obtain rfl : i = j := by omega
      go_wp2_with fail
      go_ret
      exact ⟨i, rfl, ⟨hjn, hlo.out⟩, q, rfl⟩
end Go.Proofs.Ytkgpckfaghpgmaa
