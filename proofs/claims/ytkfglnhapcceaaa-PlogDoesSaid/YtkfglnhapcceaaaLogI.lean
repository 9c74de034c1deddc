import Derived.Test.YtkfglnhapcceaaaVarX
import Derived.Test.YtkfglnhapcceaaaLogE
import Derived.Maps.OwnIn
import Derived.RangeFuncNested
import Derived.Sort.QuietIn
import Derived.StringKeys
/-
  Layer 6: ranges over slices.Backward, one within another; a map of texts.
-/
set_option linter.unusedVariables false
set_option linter.unusedSimpArgs false
namespace Go.Proofs.Ytkfglnhapcceaaa
open Go.RowKit Go.Shelf Go.Maps
attribute [local go_sem] Oper.semAt_some

section
variable {P : Program} {n : Nat}
/-- A range over a function within a round, at the wide fence. -/
theorem wpIn_rangeFunc_rawN {g : Operand} {ps : Array Tmp} {assign body : Code} {Q : Exit → Act → World → Prop} {a : Act} {w : World} {gf : Nat} {lb : Array Value} {l₀ : Nat} {r₀ : Loop} (hl₀ : w.heap[l₀]? = some (.loop r₀)) (hg : a.eval g = .func (.func gf) #[] lb)
    (eg : ∀ args w, (callFunc gf args).run P w = .ok (.enter gf args) w)
    (h : ∀ (fn : FuncId) (lp : Loop), lp = { state := .ready, pending := none, fn, tmps := a.tmps, params := ps, assign, body, defers := r₀.defers } →
      CallsIn Fence.wide (n - 1) P gf (#[.func (.yield w.heap.size) #[] #[]] ++ lb) (w.alloc (.loop lp))
        (rangePost (Fence.wide.inRound l₀) n P w.heap.size Q a)) :
    (Code.rangeFunc g ps assign body).wpIn (Fence.wide.inRound l₀) n P Q a w := by
  refine wpIn_rangeFunc fun fn hfn => ?_
  obtain ⟨lp, hlp⟩ : ∃ lp : Loop, lp = { state := .ready, pending := none, fn, tmps := a.tmps, params := ps, assign, body, defers := r₀.defers } := ⟨_, rfl⟩
  have he : (Instr.enterLoop fn a.tmps ps assign body (Fence.wide.inRound l₀).round).run P w = .ok (w.heap.size, []) (w.alloc (.loop lp)) := by
    rw [hlp]; exact run_enterLoop_inner hl₀ fn a.tmps ps assign body
  have hres : (resolve a.eval (rangeCall g w.heap.size) 0).run P (w.alloc (.loop lp)) = .ok { target := .fn (.func gf) lb, args := #[.func (.yield w.heap.size) #[] #[]] } (w.alloc (.loop lp)) := by
    simp only [resolve, hg]
    simp [go_sem]
  have hinv : (invoke (.fn (.func gf) lb) #[.func (.yield w.heap.size) #[] #[]]).run P (w.alloc (.loop lp)) = .ok (.enter gf (#[.func (.yield w.heap.size) #[] #[]] ++ lb)) (w.alloc (.loop lp)) := by
    simp [invoke, go_sem, eg]
  have hcall := h fn lp hlp
  exact ⟨w.heap.size, [], _, _, _, gf, _, _, he, hres, fun _ _ => trivial, hinv, fun hd => (by cases hd), hcall⟩
end

set_option maxHeartbeats 1000000 in
theorem backwardS6 (a : Option Addr) (n c : Nat) (w : World) : Calls Try.prog 49 #[.slice a n c] w fun e w' =>
    e = .returned (.func (.func 65) #[] #[.pointer (some ⟨w.heap.size, 0, none⟩)]) ∧ w' = w.alloc (.cells #[.slice a n c] 68) := by
  go_enter Try.func49, Try.ntmps49
  go_wp2
  go_ret
  exact ⟨rfl, rfl⟩
set_option maxHeartbeats 1000000 in
theorem backwardF6 (a : Option Addr) (n c : Nat) (w : World) : Calls Try.prog 50 #[.slice a n c] w fun e w' =>
    e = .returned (.func (.func 66) #[] #[.pointer (some ⟨w.heap.size, 0, none⟩)]) ∧ w' = w.alloc (.cells #[.slice a n c] 24) := by
  go_enter Try.func50, Try.ntmps50
  go_wp2
  go_ret
  exact ⟨rfl, rfl⟩

set_option maxHeartbeats 1000000 in
set_option maxRecDepth 100000 in
theorem back1S_in (l Bn : Nat) (v : Value) (ps : List Nat) (hs : ps.length ≤ 100000) (J : Nat → World → Prop)
    (hY : ∀ (i : Nat) (hi : i < ps.length) W, J (i + 1) W → YieldAt Fence.wide 8 Try.prog l #[.int .i64 (i : Int), .pointer (some ⟨ps[i], 0, none⟩)] W fun e W' => e = .returned (.bool true) ∧ J i W')
    (hJ : ∀ k W, J k W → W.cell? ⟨Bn, 0, none⟩ = some v ∧ PtrsIn W v ps)
    (W : World) (h0 : J ps.length W) :
    CallsIn Fence.wide 9 Try.prog 65 #[.func (.yield l) #[] #[], .pointer (some ⟨Bn, 0, none⟩)] W fun e W' => (∃ v, e = .returned v) ∧ J 0 W' := by
  refine callsIn_of_wp Try.func65 rfl trivial ?_ rfl
  simp only [Try.ntmps65, List.size_toArray, List.length_cons, List.length_nil, Nat.reduceAdd, Nat.reduceSub, Array.replicate_succ, Array.replicate_zero, List.push_toArray, List.append_toArray, List.nil_append, List.cons_append]
  have HY := Lib.hid hY
  have HJ := Lib.hid hJ
  have hc0 := (hJ _ _ h0).1
  obtain ⟨a, cap, rfl⟩ := (hJ _ _ h0).2.form
  have e1 : IntKind.i64.wrap ((ps.length : Int) - 1) = (ps.length : Int) - 1 := by rw [IntKind.wrap_i64]; omega
  clear hY hJ
  gi_wp2
  gi_loopw [3] (fun p wr => ∃ (k : Nat), k ≤ ps.length ∧ p = .int .i64 ((k : Int) - 1) ∧ J k wr) (fun p wr => (intOf p + 1).toNat)
  case atStart => exact ⟨ps.length, Nat.le_refl _, rfl, h0⟩
  case round =>
    obtain ⟨k, hk, rfl, hJs⟩ := hrel
    obtain ⟨hc, hin⟩ := HJ.out _ _ hJs
    cases k with
    | zero =>
      clear hin
      gi_wp2
      refine bodyPost_end (results_none rfl _ _ _) rfl ?_
      exact ⟨⟨_, rfl⟩, hJs⟩
    | succ j =>
      have hlt : j < ps.length := by omega
      rcases hin with ⟨h, _⟩ | ⟨b, off, cap', hsl, hcap, hne, hbl, hcells⟩
      · rw [h] at hlt; simp at hlt
      simp only [Value.slice.injEq, true_and] at hsl
      obtain ⟨rfl, rfl⟩ := hsl
      have hcj := hcells j hlt
      have ej : (((j + 1 : Nat) : Int) - 1) = (j : Int) := by omega
      obtain ⟨fn, tmps, assign, body, hy, hR⟩ := HY.out j hlt wr hJs
      have e2 : IntKind.i64.wrap ((j : Int) - 1) = (j : Int) - 1 := by rw [IntKind.wrap_i64]; omega
      rw [ej]
      have hge : (0 : Int) ≤ (j : Int) := by omega
      have hgt : (j : Int) < (ps.length : Int) := by omega
      clear hcells hne hJs
      gi_wp2
      refine hR.mono ?_
      rintro e W3 ⟨rfl, hJ3⟩
      gi_wp2
      exact ⟨⟨j, by omega, rfl, hJ3⟩, by simp [intOf]⟩
set_option maxHeartbeats 1000000 in
set_option maxRecDepth 100000 in
theorem back1F_in (l Bn : Nat) (v : Value) (fs : List Fnd) (hs : fs.length ≤ 100000) (J : Nat → World → Prop)
    (hY : ∀ (i : Nat) (hi : i < fs.length) W, J (i + 1) W → YieldAt Fence.wide 8 Try.prog l #[.int .i64 (i : Int), fs[i].val] W fun e W' => e = .returned (.bool true) ∧ J i W')
    (hJ : ∀ k W, J k W → W.cell? ⟨Bn, 0, none⟩ = some v ∧ FndsIn W v fs)
    (W : World) (h0 : J fs.length W) :
    CallsIn Fence.wide 9 Try.prog 66 #[.func (.yield l) #[] #[], .pointer (some ⟨Bn, 0, none⟩)] W fun e W' => (∃ v, e = .returned v) ∧ J 0 W' := by
  refine callsIn_of_wp Try.func66 rfl trivial ?_ rfl
  simp only [Try.ntmps66, List.size_toArray, List.length_cons, List.length_nil, Nat.reduceAdd, Nat.reduceSub, Array.replicate_succ, Array.replicate_zero, List.push_toArray, List.append_toArray, List.nil_append, List.cons_append]
  have HY := Lib.hid hY
  have HJ := Lib.hid hJ
  have hc0 := (hJ _ _ h0).1
  obtain ⟨a, cap, rfl⟩ := (hJ _ _ h0).2.form
  have e1 : IntKind.i64.wrap ((fs.length : Int) - 1) = (fs.length : Int) - 1 := by rw [IntKind.wrap_i64]; omega
  clear hY hJ
  gi_wp2
  gi_loopw [3] (fun p wr => ∃ (k : Nat), k ≤ fs.length ∧ p = .int .i64 ((k : Int) - 1) ∧ J k wr) (fun p wr => (intOf p + 1).toNat)
  case atStart => exact ⟨fs.length, Nat.le_refl _, rfl, h0⟩
  case round =>
    obtain ⟨k, hk, rfl, hJs⟩ := hrel
    obtain ⟨hc, hin⟩ := HJ.out _ _ hJs
    cases k with
    | zero =>
      clear hin
      gi_wp2
      refine bodyPost_end (results_none rfl _ _ _) rfl ?_
      exact ⟨⟨_, rfl⟩, hJs⟩
    | succ j =>
      have hlt : j < fs.length := by omega
      rcases hin with ⟨h, _⟩ | ⟨b, off, cap', hsl, hcap, hne, hbl, hcells⟩
      · rw [h] at hlt; simp at hlt
      simp only [Value.slice.injEq, true_and] at hsl
      obtain ⟨rfl, rfl⟩ := hsl
      obtain ⟨x0, x1, x2, x3, x4⟩ := hcells j hlt
      have ej : (((j + 1 : Nat) : Int) - 1) = (j : Int) := by omega
      obtain ⟨fn, tmps, assign, body, hy, hR⟩ := HY.out j hlt wr hJs
      unfold Fnd.val at hy
      have e2 : IntKind.i64.wrap ((j : Int) - 1) = (j : Int) - 1 := by rw [IntKind.wrap_i64]; omega
      rw [ej]
      have hge : (0 : Int) ≤ (j : Int) := by omega
      have hgt : (j : Int) < (fs.length : Int) := by omega
      clear hcells hne hJs
      generalize fs[j] = f at *
      gi_wp2
      refine hR.mono ?_
      rintro e W3 ⟨rfl, hJ3⟩
      gi_wp2
      exact ⟨⟨j, by omega, rfl, hJ3⟩, by simp [intOf]⟩

/-- The map that has these texts. -/
def mapT (l : List (List UInt8)) : DataW Unit := l.foldl (fun D k => D.put (.string k) (.lit (.bool true))) (.map [])
theorem mapT_snoc (l : List (List UInt8)) (k : List UInt8) : mapT (l ++ [k]) = (mapT l).put (.string k) (.lit (.bool true)) := by simp [mapT, List.foldl_append]
theorem snoc_indT {α : Type} {P : List α → Prop} (h0 : P []) (h1 : ∀ l f, P l → P (l ++ [f])) : ∀ l, P l := by
  have h : ∀ m : List α, P m.reverse := by
    intro m
    induction m with
    | nil => exact h0
    | cons f m ih => rw [List.reverse_cons]; exact h1 _ _ ih
  intro l
  simpa using h l.reverse
theorem mapT_isMap : ∀ l, IsMap (mapT l) := snoc_indT isMap_empty fun l n ih => by rw [mapT_snoc]; exact ih.put _ _
theorem mapT_at (k : List UInt8) : ∀ l, (mapT l).atKey (.string k) (.lit (.bool false)) = .lit (.bool (decide (k ∈ l))) := snoc_indT (by simp [mapT]; rfl) fun l m ih => by
  rw [mapT_snoc]
  by_cases h : k = m
  · subst h
    rw [atKey_put_same (mapT_isMap l) (by trivial)]
    simp
  · rw [atKey_put_other (by simpa using h), ih]
    simp [h]
theorem keyT : Keyed Try.prog 9 := string_keyed Try.underlying9
/-- A block that is the map of these texts. -/
def TMap (w : World) (b : Nat) (l : List (List UInt8)) : Prop := w.ownsMap Try.prog 9 (plainElem Try.prog 4) b l.length (mapT l)
theorem keyOf_S {k : List UInt8} (hk : k.length ≤ maxLen) : keyOf Try.prog 9 (.string (S k)) = some (.string k) := by
  have := Go.WideMaps.keyOf_string_mk (P := Try.prog) Try.underlying9 (s := S k) (by rw [S_size]; exact hk)
  rw [this]
set_option maxRecDepth 100000 in
theorem tmap_look {w : World} {b : Nat} {l : List (List UInt8)} (h : TMap w b l) (k : List UInt8) (hk : k.length ≤ maxLen) : (Instr.lookup 85 (.map (some b)) (.string (S k)) false).run Try.prog w = .ok (.bool (decide (k ∈ l))) w := by
  obtain ⟨v, ps, hrun, hv⟩ := World.ownsMap.lookup h keyT Try.underlying85 (zeroB w) (plainElem_bool Try.underlying4 false) (keyOf_S hk)
  rw [mapT_at] at hv
  have he : v = .bool (decide (k ∈ l)) := by
    unfold plainElem at hv
    rw [Try.underlying4] at hv
    split at hv <;> simp_all
  rw [hrun, he]
theorem TMap.keptBy {bs : List Nat} {w W : World} {b : Nat} {l : List (List UInt8)} (h : TMap w b l) (k : Kept bs w W) (hn : b ∉ bs) : TMap W b l := by
  have hlt := World.ownsMap.lt h
  obtain ⟨es, clock, hb, rest⟩ := h
  exact ⟨es, clock, (k.block b hlt hn).trans hb, rest⟩
end Go.Proofs.Ytkfglnhapcceaaa
