/-
  The walk of VarintRows.
-/
import Derived.Test.YtdgeljfiobmkcaaFix1
import Derived.Test.YtdgeljfiobmkcaaVarQ
set_option linter.unusedVariables false
set_option linter.unusedSimpArgs false
namespace Go.Proofs.Ytdgeljfiobmkcaa.varintRows
open Go.RowKit
attribute [local go_sem] ByteArray.extract_mk ByteArray.mk_append_mk

/-- Numbers' bytes, one behind the other. -/
def cat (l : List Nat) : List UInt8 := l.flatMap vput
theorem cat_len : ∀ l : List Nat, (cat l).length ≤ 10 * l.length
  | [] => by simp [cat]
  | n :: l => by
    have := cat_len l
    have := vput_le n
    unfold cat at *
    rw [List.flatMap_cons, List.length_append, List.length_cons]
    omega
theorem cat_snoc (l : List Nat) (k : Nat) (h : k < l.length) : cat (l.take (k + 1)) = cat (l.take k) ++ vput l[k] := by
  unfold cat
  rw [List.take_succ_eq_append_getElem h, List.flatMap_append]
  simp
theorem cat_split (l : List Nat) (k : Nat) (h : k < l.length) : cat l = cat (l.take k) ++ (vput l[k] ++ cat (l.drop (k + 1))) := by
  have e : l = l.take k ++ (l[k] :: l.drop (k + 1)) := by rw [← List.drop_eq_getElem_cons h, List.take_append_drop]
  unfold cat
  conv => lhs; rw [e]
  rw [List.flatMap_append, List.flatMap_cons]

set_option maxHeartbeats 1000000 in
set_option maxRecDepth 100000 in
theorem walk_some (b off cap : Nat) (ns : List Nat) (w : World) (hb : b < w.heap.size) (hlen : ns.length ≤ maxLen) (hns : ∀ n ∈ ns, n < 18446744073709551616)
    (hcell : ∀ i, (h : i < ns.length) → w.cell? ⟨b, off + i, none⟩ = some (.int .u64 (ns[i] : Nat))) :
    RetB Try.prog 9 #[.slice (some ⟨b, off, none⟩) ns.length cap] w (.bool true) := by
  refine RetB.intro fun R hR => ?_
  unfold maxLen at hlen
  obtain ⟨N, hN⟩ : ∃ N, min ns.length 60 = N := ⟨_, rfl⟩
  have hNl : N ≤ ns.length := by omega
  have hN60 : N ≤ 60 := by omega
  obtain ⟨l, hl⟩ : ∃ l, ns.take N = l := ⟨_, rfl⟩
  have hll : l.length = N := by rw [← hl, List.length_take]; omega
  have hget : ∀ k, (h : k < N) → l[k]'(by omega) = ns[k]'(by omega) := by intro k h; subst hl; simp
  have HN := Lib.hid hN
  clear hN
  go_enter Try.func9, Try.ntmps9
  go_wp2
  go_loopw [3, 4] (fun s i wr => ∃ k : Nat, k ≤ N ∧ i = .int .i64 k ∧ s = .string (S (cat (l.take k))) ∧ Below w.heap.size w wr) (fun _ i _ => 60 - (intOf i).toNat)
  case atStart => exact ⟨0, by omega, rfl, by simp [cat], Below.refl _ _⟩
  case round =>
    obtain ⟨k, hk, rfl, rfl, hbw⟩ := hrel
    have hc1 := cat_len (l.take k)
    have hc2 : (l.take k).length ≤ 60 := by rw [List.length_take]; omega
    by_cases hlt : k < N
    · have g1 : k < ns.length := by omega
      have g2 : k < 60 := by omega
      have hcl := (hbw.cell (p := ⟨b, off + k, none⟩) hb).trans (hcell k g1)
      obtain ⟨z, hz⟩ : ∃ z, ns[k] = z := ⟨_, rfl⟩
      rw [hz] at hcl
      have hput := fun w => put_any z w (by rw [← hz]; exact hns _ (List.getElem_mem _))
      have hs := Lib.hid (cat_snoc l k (by omega))
      have hp := vput_le z
      have HZ := Lib.hid hz
      have HL := Lib.hid (hget k hlt)
      clear hz
      generalize hv : vput z = v at *
      have HV := Lib.hid hv
      clear hv
      generalize hcc : cat (l.take k) = c at *
      have HC := Lib.hid hcc
      clear hcc
      go_wp2_with fail
      refine (hput _).use ?_
      intro w1 hb1
      go_wp2_with fail
      go_roundw
      case rel =>
        refine ⟨k + 1, by omega, by go_num, veq_str ?_, hbw.trans (hb1.mono hbw.size)⟩
        rw [hs.out, HL.out, HZ.out, HV.out]
      case measure => simp [intOf]; omega
    · obtain rfl : k = N := by omega
      have hout : ¬ (k < ns.length ∧ k < 60) := by have := HN.out; omega
      have e1 : l.take k = l := by rw [List.take_of_length_le (by omega)]
      rw [e1] at hc1 hc2 ⊢
      obtain ⟨c, hc⟩ : ∃ c, cat l = c := ⟨_, rfl⟩
      rw [hc] at hc1 ⊢
      clear e1
      have hfin : vget c c.length = (0, 0, 10) := by unfold vget; rw [if_pos ⟨by omega, by omega⟩, Int.toNat_natCast, List.drop_length]; rfl
      have hgets : ∀ i, (h : i < k) → vget c (cat (l.take i)).length = (ns[i]'(by omega), ((cat (l.take (i + 1))).length : Int), 0) := by
        intro i h
        have hz : ns[i]'(by omega) < 18446744073709551616 := hns _ (List.getElem_mem _)
        have := vget_put (cat (l.take i)) (l[i]'(by omega)) (cat (l.drop (i + 1))) (by rw [hget i h]; exact hz)
        rw [← cat_split l i (by omega), hc] at this
        rw [this, hget i h, cat_snoc l i (by omega), List.length_append, hget i h, Int.natCast_add]
      have hcm : c.length ≤ maxLen := by unfold maxLen; omega
      have HG := Lib.hid hgets
      have HF := Lib.hid hfin
      have HC := Lib.hid hc
      clear hgets hfin hc hget
      have hAB : (k < ns.length ∧ ¬ k < 60) ∨ ¬ k < ns.length := by omega
      clear hout
      rcases hAB with ⟨hA, hB⟩ | hA
      all_goals
        go_wp2
        go_loop [5, 6] (fun p i => ∃ j : Nat, j ≤ k ∧ i = .int .i64 j ∧ Hid (p = .int .i64 (cat (l.take j)).length)) (fun _ i => 60 - (intOf i).toNat)
        case atStart => exact ⟨0, by omega, rfl, rfl⟩
        case round =>
          obtain ⟨j, hj, rfl, hp⟩ := hrel
          by_cases hlt : j < k
          · have g1 : j < ns.length := by omega
            have g2 : j < 60 := by omega
            have hcl := (hbw.cell (p := ⟨b, off + j, none⟩) hb).trans (hcell j g1)
            have hgj := HG.out j hlt
            have hpos : (cat (l.take j)).length < (cat (l.take (j + 1))).length := by
              rw [cat_snoc l j (by omega), List.length_append]
              have := vput_pos (l[j]'(by omega))
              omega
            obtain ⟨z, hz⟩ : ∃ z, ns[j] = z := ⟨_, rfl⟩
            obtain ⟨x, hx⟩ : ∃ x, (cat (l.take j)).length = x := ⟨_, rfl⟩
            obtain ⟨y, hy⟩ : ∃ y, (cat (l.take (j + 1))).length = y := ⟨_, rfl⟩
            rw [hz] at hcl
            rw [hz, hx, hy] at hgj
            rw [hx, hy] at hpos
            rw [hx] at hp
            have hg := fun w => vget_eq hgj w hcm
            have hp' := hp.out
            subst hp'
            have HY := Lib.hid hy
            clear hgj hz hx hy hp
            go_wp2_with fail
            refine (hg _).use ?_
            go_wp2_with fail
            go_round
            case rel => exact ⟨j + 1, by omega, by go_num, by rw [HY.out]; rfl⟩
            case measure => simp [intOf]; omega
          · obtain rfl : j = k := by omega
            have e1 : l.take j = l := by rw [List.take_of_length_le (by omega)]
            rw [e1, HC.out] at hp
            have hp' := hp.out
            subst hp'
            have hg := fun w => vget_eq HF.out w hcm
            clear hp e1 hlt
            go_wp2_with fail
            refine (hg _).use ?_
            go_wp2_with fail
            refine (fixed1 _).use ?_
            intro w2 hb2
            go_wp2_with fail
            exact finB hR (hbw.trans (hb2.mono hbw.size)) rfl

set_option maxRecDepth 100000 in
theorem walk_none (a : Option Addr) (cap : Nat) (w : World) : RetB Try.prog 9 #[.slice a 0 cap] w (.bool true) := by
  refine RetB.intro fun R hR => ?_
  have hg := fun w => vget_eq (l := []) (p := 0) (n := 0) (t := 0) (e := 10) (by decide) w (by decide)
  go_enter Try.func9, Try.ntmps9
  go_wp2
  refine wp_loop_once ?_
  go_wp2
  refine wp_loop_once ?_
  go_wp2_with fail
  refine (hg _).use ?_
  go_wp2_with fail
  refine (fixed1 _).use ?_
  intro w2 hb2
  go_wp2_with fail
  exact finB hR hb2 rfl

theorem walk (v : Value) {w : World} (hv : IntsIn w .u64 v) : RetB Try.prog 9 #[v] w (.bool true) := by
  rcases hv with ⟨a, cap, rfl⟩ | ⟨b, off, cap, zs, rfl, h1, h2, h3, h4⟩
  · exact walk_none a cap w
  · have hz : ∀ i, (h : i < zs.length) → 0 ≤ zs[i] ∧ zs[i] < 18446744073709551616 := by
      intro i h
      have := h3 _ (List.getElem_mem h)
      have := (by simpa [Lit.wf, IntKind.min, IntKind.max, IntKind.signed, IntKind.bits] using this : 0 ≤ zs[i] ∧ zs[i] ≤ 18446744073709551615)
      omega
    have e : (zs.map Int.toNat).length = zs.length := List.length_map _
    rw [← e]
    refine walk_some b off cap (zs.map Int.toNat) w h1 (by omega) ?_ ?_
    · intro n hn
      obtain ⟨i, hi, rfl⟩ := List.getElem_of_mem hn
      rw [List.getElem_map]
      have := hz i (by omega)
      omega
    · intro i hi
      rw [h4 i (by omega), List.getElem_map]
      have := hz i (by omega)
      rw [Int.toNat_of_nonneg this.1]
end Go.Proofs.Ytdgeljfiobmkcaa.varintRows
