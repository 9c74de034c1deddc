import Derived.Test.YtohplhahghilaaaChkJP
/-
  Layer 7, the document's gatherer: what it tells: contracts.
-/
set_option linter.unusedVariables false
set_option linter.unusedSimpArgs false
namespace Go.Proofs.Ytohplhahghilaaa
open Go.RowKit
attribute [local go_sem] ByteArray.extract_mk ByteArray.mk_append_mk

theorem pairs_at {l : List Chk} {k : Int} {j : Nat} (hj : j < l.length) (h : ∀ x ∈ l.take j, x.i ≠ k) (e : l[j].i = k) : mfind (pairs l) k = some l[j].b := by
  rw [pairs_find]
  have hl : l = l.take j ++ (l[j] :: l.drop (j + 1)) := by rw [← List.drop_eq_getElem_cons hj, List.take_append_drop]
  have h2 : (l.take j).find? (fun c => c.i == k) = none := by
    rw [List.find?_eq_none]
    intro x hx
    simpa using h x hx
  have : l.find? (fun c => c.i == k) = some l[j] := by
    conv => lhs; rw [hl]
    rw [List.find?_append, h2, List.find?_cons_of_pos (by simpa using e)]
    rfl
  rw [this]; rfl
theorem pairs_off {l : List Chk} {k : Int} (h : ∀ x ∈ l, x.i ≠ k) : mfind (pairs l) k = none := by
  rw [pairs_find, Option.map_eq_none_iff, List.find?_eq_none]
  intro x hx
  simpa using h x hx
theorem take_all {l : List Chk} {P : Chk → Prop} {j : Nat} (hj : j < l.length) (h : ∀ x ∈ l.take j, P x) (e : P l[j]) : ∀ x ∈ l.take (j + 1), P x := by
  rw [List.take_succ_eq_append_getElem hj]
  intro x hx
  rcases List.mem_append.1 hx with h1 | h1
  · exact h x h1
  · rw [List.mem_singleton.1 h1]; exact e
/-- The document's gatherer reads as these chunks. -/
def RJ (B : Nat) (w : World) (q d : Nat) (v : Value) (l : List Chk) : Prop := Blk w q #[.int .u64 (d : Nat), v] 62 ∧ w.ownsRow B 38 4 v l.length (l.flatMap Chk.cells)
theorem RJ.below {B q d : Nat} {w W : World} {v : Value} {l : List Chk} (h : RJ B w q d v l) (b : Below w.heap.size w W) : RJ B W q d v l := ⟨h.1.below b, own_keptBy h.2 (Kept.ofBelow b []) (away_nil _)⟩
theorem RJ.keptBy {B q d : Nat} {w W : World} {v : Value} {l : List Chk} {bs : List Nat} (h : RJ B w q d v l) (k : Kept bs w W) (hq : q ∉ bs) (hv : Away bs v) : RJ B W q d v l := ⟨h.1.keptBy k hq, own_keptBy h.2 k hv⟩

set_option maxHeartbeats 2000000 in
set_option maxRecDepth 100000 in
theorem rbody7 (q d : Nat) (v : Value) (l : List Chk) (k : Int) (w : World) (hq : Blk w q #[.int .u64 (d : Nat), v] 62) (hv : ChksIn w v l) (hl : l.length ≤ 100000) :
    Ret Try.prog 60 #[.pointer (some ⟨q, 0, none⟩), .int .i64 k] w (.tuple #[.string (S ((mfind (pairs l) k).getD [])), .bool (mfind (pairs l) k).isSome]) := by
  refine Ret.intro fun R hR => ?_
  have HV := Lib.hid hv
  obtain ⟨va, vc, rfl⟩ := hv.form
  obtain ⟨k0, y0, y1⟩ := hq.c2
  clear hv hq
  go_enter Try.func60, Try.ntmps60
  go_wp2_with fail
  go_loop [6] (fun (v6 : Value) => ∃ j : Nat, j ≤ l.length ∧ v6 = .int .i64 (j : Int) ∧ Hid (∀ x ∈ l.take j, x.i ≠ k)) (fun (v6 : Value) => (l.length - intOf v6).toNat)
  case atStart => exact ⟨0, by omega, rfl, Lib.hid (by simp)⟩
  case round =>
    obtain ⟨j, hj, rfl, hno⟩ := hrel
    by_cases hjl : j < l.length
    · rcases HV.out with ⟨h, _⟩ | ⟨b, off, cap', hsl, hcap, hne, hlt, hc⟩
      · rw [h] at hjl; simp at hjl
      simp only [Value.slice.injEq, true_and] at hsl
      obtain ⟨rfl, rfl⟩ := hsl
      have FA := hc j hjl
      have h0 : (0 : Int) ≤ (j : Int) := by omega
      have h1 : (j : Int) < (l.length : Int) := by omega
      by_cases hik : l[j].i = k
      · have hm := pairs_at hjl hno.out hik
        rw [hm] at hR
        clear hc hm hno
        generalize l[j] = x at *
        obtain ⟨x0, x1, x2, x3⟩ := FA
        subst hik
        have h2 : (x.i == x.i) = true := by simp
        go_wp2_with fail
        exact fin hR rfl
      · have hno2 := Lib.hid (take_all (P := fun x => x.i ≠ k) hjl hno.out hik)
        have h2 : (l[j].i == k) = false := by simpa using hik
        clear hc hno
        generalize l[j] = x at *
        obtain ⟨x0, x1, x2, x3⟩ := FA
        clear hik
        go_wp2_with fail
        go_round
        case rel => exact ⟨j + 1, by omega, by go_num, hno2⟩
        case measure => first | (simp [intOf]; done) | (simp [intOf]; omega)
    · have hno2 := hno.out
      rw [List.take_of_length_le (by omega)] at hno2
      have hm := pairs_off hno2
      rw [hm] at hR
      clear hm hno hno2
      go_wp2_with fail
      exact fin hR rfl

set_option maxHeartbeats 2000000 in
set_option maxRecDepth 100000 in
theorem rmissing7_none (q d : Nat) (v : Value) (w : World) (hq : Blk w q #[.int .u64 (d : Nat), v] 62) (hv : ChksIn w v []) :
    NumsCall 33 #[.pointer (some ⟨q, 0, none⟩)] w [] := by
  refine NumsCall.intro fun R hR => ?_
  obtain ⟨va, vc, rfl⟩ := hv.form
  obtain ⟨k0, y0, y1⟩ := hq.c2
  clear hv hq
  go_enter Try.func33, Try.ntmps33
  go_wp2_with fail
  refine wp_loop_rounds 1 ?_
  rw [rounds_succ]
  go_wp2_with fail
  exact hR.out _ _ (World.ownsRow_lit (base := w.heap.size) (e := 3) (size := 1) w #[] 0 (Nat.le_refl _) (by unfold maxLen; decide) rfl) (below_all (Below.refl _ _))
set_option maxHeartbeats 4000000 in
set_option maxRecDepth 100000 in
theorem rmissing7 (q d N : Nat) (v : Value) (l : List Chk) (w : World) (hq : Blk w q #[.int .u64 (d : Nat), v] 62) (hv : ChksIn w v l) (hl : l.length ≤ 100000) (hN : ∀ c ∈ l, c.n = N) (h0 : l ≠ []) (hN2 : N ≤ 100000) :
    NumsCall 33 #[.pointer (some ⟨q, 0, none⟩)] w (jmiss (pairs l) N) := by
  refine NumsCall.intro fun R hR => ?_
  obtain ⟨i0, hi, hz0, hz1, hz2⟩ := info_parts intInfo
  have CB := Lib.hid (fun k W hq hv => rbody7 q d v l k W hq hv hl)
  have HQ := Lib.hid hq
  have HV := Lib.hid hv
  obtain ⟨va, vc, rfl⟩ := hv.form
  have hpos : 0 < l.length := List.length_pos_iff.2 h0
  have hz : (0 : Int) < (l.length : Int) := by omega
  have hzl : ((l.length : Int) = 0) = False := eq_false (by omega)
  have HN := Lib.hid (hN _ (List.getElem_mem hpos))
  clear hv hq h0 hN
  go_enter Try.func33, Try.ntmps33
  go_wp2_with fail
  go_loopw [3, 4, 5, 6] (fun (v3 v4 v5 v6 : Value) (W : World) => ∃ k : Nat, k ≤ N ∧ v4 = .int .i64 (k : Int) ∧ W.ownsRow w.heap.size 3 1 v3 (jmiss (pairs l) k).length ((jmiss (pairs l) k).map (Value.int .i64)) ∧ Below w.heap.size w W) (fun (v3 v4 v5 v6 : Value) (W : World) => (N - intOf v4).toNat)
  case atStart => exact ⟨0, by omega, rfl, World.ownsRow_lit (base := w.heap.size) (e := 3) (size := 1) w #[] 0 (Nat.le_refl _) (by unfold maxLen; decide) rfl, below_all (Below.refl _ _)⟩
  case round =>
    obtain ⟨k, hk, rfl, hown, hnx⟩ := hrel
    have BQ := HQ.out.below hnx
    obtain ⟨k0, y0, y1⟩ := BQ.c2
    rcases HV.out.below hnx with ⟨h, _⟩ | ⟨b, off, cap', hsl, hcap, hne, hlt, hc⟩
    · rw [h] at hpos; simp at hpos
    simp only [Value.slice.injEq, true_and] at hsl
    obtain ⟨rfl, rfl⟩ := hsl
    obtain ⟨_, x1, _, _⟩ := hc 0 hpos
    rw [HN.out] at x1
    simp only [Nat.zero_mul, Nat.add_zero] at x1
    clear hc
    by_cases hkn : k < N
    · have hkn2 : (k : Int) < (N : Int) := by omega
      have cB := (CB.out k wr BQ (HV.out.below hnx))
      have hst := Lib.hid (jmiss_step (pairs l) k)
      have hml := jmiss_len (pairs l) k
      generalize jmiss (pairs l) k = X at *
      cases hm : mfind (pairs l) (k : Int) with
      | none =>
        rw [hm] at cB hst
        simp only [Option.getD_none, Option.isSome_none] at cB
        have hown2 := World.ownsRow.alloc hown (.cells #[.int .i64 (k : Int)] 3)
        have hne := news_int7 (W := wr) (k : Int) rfl
        have zz := hnx.size
        go_wp2_with fail
        refine cB.use ?_
        go_wp2_with (at_builtin; refine wpList_append_own_at _ rfl _ _ 48 rfl w.heap.size 3 i0 _ 1 8 Try.underlying48 hi hz0 hz1 hz2 rfl (by decide) _ _ _ rfl hown2 ⟨wr.heap.size, 0, none⟩ 1 1 [.int .i64 (k : Int)] rfl rfl hne (by simp [Value.oneCell']) (by unfold maxLen; omega) (by omega) (by simp; omega) ?_)
        intro va5 w5 o5 g5 z7 at5
        have G6 : Below w.heap.size w w5 := Kept.below (below_all (o := .cells #[.int .i64 (k : Int)] 3) hnx) (Kept.ofGrown g5) (by intro x hx; simp only [Option.mem_toList] at hx; exact (hown2.lt x hx).1) (by simp; omega)
        have O6 : w5.ownsRow w.heap.size 3 1 va5 (jmiss (pairs l) (k + 1)).length ((jmiss (pairs l) (k + 1)).map (Value.int .i64)) := by rw [hst.out]; simpa using o5
        clear g5 z7 at5 o5 hown2 hne
        go_wp2_with fail
        go_roundw
        case rel => exact ⟨k + 1, by omega, by go_num, O6, G6⟩
        case measure => first | (simp [intOf]; done) | (simp [intOf]; omega)
      | some x =>
        rw [hm] at cB hst
        simp only [Option.getD_some, Option.isSome_some] at cB
        have O6 := hst.out
        simp only [Option.isNone_some, Bool.false_eq_true, if_false, List.append_nil] at O6
        have O6 := Lib.hid O6
        go_wp2_with fail
        refine cB.use ?_
        go_wp2_with fail
        go_roundw
        case rel => exact ⟨k + 1, by omega, by go_num, by rw [O6.out]; exact hown, hnx⟩
        case measure => first | (simp [intOf]; done) | (simp [intOf]; omega)
    · obtain rfl : k = N := by omega
      have hkn2 : ¬ (k : Int) < (k : Int) := by omega
      go_wp2_with fail
      exact hR.out _ _ hown hnx
end Go.Proofs.Ytohplhahghilaaa
