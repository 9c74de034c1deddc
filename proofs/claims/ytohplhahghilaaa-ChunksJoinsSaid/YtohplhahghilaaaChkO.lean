import Derived.Test.YtohplhahghilaaaChkY
import Derived.Test.YtohplhahghilaaaSeg1
import Derived.Test.YtohplhahghilaaaChkE
/-
  Layer 7: what is missing, and the whole: contracts.
-/
set_option linter.unusedVariables false
set_option linter.unusedSimpArgs false
namespace Go.Proofs.Ytohplhahghilaaa
open Go.RowKit Go.Maps Go.ChangeMaps Go.MapKept
attribute [local go_sem] ByteArray.extract_mk ByteArray.mk_append_mk

/-- Which of the first k numbers are not there. -/
def jmiss (L : List (Int × List UInt8)) (k : Nat) : List Int := ((List.range k).filter fun (i : Nat) => (mfind L (i : Int)).isNone).map Int.ofNat
theorem jmiss_step (L : List (Int × List UInt8)) (k : Nat) : jmiss L (k + 1) = jmiss L k ++ if (mfind L (k : Int)).isNone then [(k : Int)] else [] := by
  unfold jmiss
  rw [List.range_succ, List.filter_append, List.map_append]
  congr 1
  by_cases h : (mfind L (k : Int)).isNone = true
  · rw [if_pos h]; simp [List.filter, h]
  · rw [if_neg h]; have h2 : (mfind L (k : Int)).isNone = false := by cases hx : mfind L (k : Int) <;> simp_all
    simp [List.filter, h2]
theorem jmiss_len (L : List (Int × List UInt8)) (k : Nat) : (jmiss L k).length ≤ k := by
  unfold jmiss
  rw [List.length_map]
  exact Nat.le_trans (List.length_filter_le _ _) (by simp)
/-- The text of the first k. -/
def jtext (L : List (Int × List UInt8)) (k : Nat) : List UInt8 := (List.range k).flatMap fun (i : Nat) => (mfind L (i : Int)).getD []
theorem jtext_step (L : List (Int × List UInt8)) (k : Nat) : jtext L (k + 1) = jtext L k ++ (mfind L (k : Int)).getD [] := by
  unfold jtext
  rw [List.range_succ, List.flatMap_append]
  simp
theorem mfind_bd {L : List (Int × List UInt8)} (h : ∀ p ∈ L, p.2.length ≤ 4096) (k : Int) : ((mfind L k).getD []).length ≤ 4096 := by
  unfold mfind
  cases hf : L.find? (fun p => p.1 == k) with
  | none => simp
  | some x => simpa using h x (List.mem_of_find?_eq_some hf)
theorem jtext_len {L : List (Int × List UInt8)} (h : ∀ p ∈ L, p.2.length ≤ 4096) : ∀ k, (jtext L k).length ≤ 4096 * k
  | 0 => by simp [jtext]
  | k + 1 => by
    have := jtext_len h k
    have := mfind_bd h k
    rw [jtext_step, List.length_append]
    omega
theorem news_int7 {W : World} (x : Int) {s : Nat} (hs : W.heap.size = s) : ∀ j u, [Value.int .i64 x][j]? = some u → (W.alloc (.cells #[.int .i64 x] 3)).cell? ((⟨s, 0, none⟩ : Addr).add j) = some u := by
  subst hs
  exact World.news_of_block (cs := #[.int .i64 x]) (t := 3) (fr := (0, 0)) (heap_alloc_new W _)

set_option maxHeartbeats 2000000 in
set_option maxRecDepth 100000 in
theorem missing7_none (p m d : Nat) (n : Int) (w : World) (h : JAt w p m d n []) : NumsCall 28 #[.pointer (some ⟨p, 0, none⟩)] w [] := by
  refine NumsCall.intro fun R hR => ?_
  obtain ⟨j0, y0, y1, y2⟩ := h.1.c3
  have hln := fun ty => h.2.len ty
  go_enter Try.func28, Try.ntmps28
  go_wp2_with fail
  exact hR.out _ _ (World.ownsRow_nil _ _ _ _) (Below.refl _ _)

set_option maxHeartbeats 2000000 in
set_option maxRecDepth 100000 in
theorem missing7 (p m d : Nat) (n : Nat) (L : List (Int × List UInt8)) (w : World) (h : JAt w p m d n L) (hL : L ≠ []) (hn : n ≤ 100000) : NumsCall 28 #[.pointer (some ⟨p, 0, none⟩)] w (jmiss L n) := by
  refine NumsCall.intro fun R hR => ?_
  obtain ⟨i0, hi, hz0, hz1, hz2⟩ := info_parts intInfo
  obtain ⟨j0, y0, y1, y2⟩ := h.1.c3
  have hln := fun ty => h.2.len ty
  have H := Lib.hid h
  have q2 : ((L.length : Int) == 0) = false := by have := List.length_pos_iff.2 hL; simp; omega
  have q3 : ((L.length : Int) = 0) = False := eq_false (by have := List.length_pos_iff.2 hL; omega)
  clear h
  go_enter Try.func28, Try.ntmps28
  go_wp2_with fail
  clear y0 y1 y2 hln
  go_loopw [3, 4, 5, 6, 17] (fun (a3 a4 a5 a6 v17 : Value) (W : World) => ∃ k : Nat, k ≤ n ∧ v17 = .int .i64 (k : Int) ∧ W.ownsRow w.heap.size 3 1 a3 (jmiss L k).length ((jmiss L k).map (Value.int .i64)) ∧ Below w.heap.size w W) (fun (a3 a4 a5 a6 v17 : Value) (W : World) => (n - intOf v17).toNat)
  case atStart => exact ⟨0, by omega, rfl, World.ownsRow_nil _ _ _ _, Below.refl _ _⟩
  case round =>
    obtain ⟨k, hk, rfl, hown, hnx⟩ := hrel
    by_cases hkn : k < n
    · have J := H.out.below hnx
      obtain ⟨j0, y0, y1, y2⟩ := J.1.c3
      have hlk := J.2.look_ok (k : Int) (wf_i64 (by omega) (by omega))
      have hst := Lib.hid (jmiss_step L k)
      have hml := jmiss_len L k
      generalize jmiss L k = X at *
      cases hm : mfind L (k : Int) with
      | none =>
        rw [hm] at hlk hst
        have hown2 := World.ownsRow.alloc hown (.cells #[.int .i64 (k : Int)] 3)
        have hne := news_int7 (W := wr) (k : Int) rfl
        have zz := hnx.size
        go_wp2_with (at_builtin; refine wpList_append_own_at _ rfl _ _ 48 rfl w.heap.size 3 i0 _ 1 8 Try.underlying48 hi hz0 hz1 hz2 rfl (by decide) _ _ _ rfl hown2 ⟨wr.heap.size, 0, none⟩ 1 1 [.int .i64 (k : Int)] rfl rfl hne (by simp [Value.oneCell']) (by unfold maxLen; omega) (by omega) (by simp; omega) ?_)
        intro va5 w5 o5 g5 z7 at5
        have G6 : Below w.heap.size w w5 := Kept.below (below_all (o := .cells #[.int .i64 (k : Int)] 3) hnx) (Kept.ofGrown g5) (by intro x hx; simp only [Option.mem_toList] at hx; exact (hown2.lt x hx).1) (by simp; omega)
        have O6 : w5.ownsRow w.heap.size 3 1 va5 (jmiss L (k + 1)).length ((jmiss L (k + 1)).map (Value.int .i64)) := by rw [hst.out]; simpa using o5
        clear g5 z7 at5 o5 hown2 hne
        go_wp2_with fail
        go_roundw
        case rel => exact ⟨k + 1, by omega, by go_num, O6, G6⟩
        case measure => simp [intOf]; omega
      | some x =>
        rw [hm] at hlk hst
        have O6 := hst.out
        simp only [Option.isNone_some, Bool.false_eq_true, if_false, List.append_nil] at O6
        have O6 := Lib.hid O6
        go_wp2_with fail
        go_roundw
        case rel => exact ⟨k + 1, by omega, by go_num, by rw [O6.out]; exact hown, hnx⟩
        case measure => simp [intOf]; omega
    · obtain rfl : k = n := by omega
      go_wp2_with fail
      exact hR.out _ _ hown hnx

set_option maxHeartbeats 2000000 in
set_option maxRecDepth 100000 in
theorem whole7_no (p m d n : Nat) (L : List (Int × List UInt8)) (w : World) (h : JAt w p m d n L) (hL : L = [] ∨ L.length < n) : RetB Try.prog 27 #[.pointer (some ⟨p, 0, none⟩)] w (.tuple #[.string (S []), .bool false]) := by
  refine RetB.intro fun R hR => ?_
  obtain ⟨j0, y0, y1, y2⟩ := h.1.c3
  have hln := fun q ty => (show SMap (w.drewN q) m L from h.2).len ty
  clear h
  by_cases h0 : L = []
  · subst h0
    clear hL
    go_enter Try.func27, Try.ntmps27
    go_wp2_with fail
    go_quiet (fail)
    go_wp2_with fail
    exact finB hR (belowN (Below.refl _ _) _) rfl
  · have q2 : ((L.length : Int) == 0) = false := by have := List.length_pos_iff.2 h0; simp; omega
    have q3 : ((L.length : Int) = 0) = False := eq_false (by have := List.length_pos_iff.2 h0; omega)
    have hlt : L.length < n := hL.resolve_left h0
    have q4 : ((L.length : Int) < (n : Int)) = True := eq_true (by omega)
    have q5 : (L.length < n) = True := eq_true hlt
    clear hL hlt h0
    go_enter Try.func27, Try.ntmps27
    go_wp2_with fail
    go_quiet (fail)
    go_wp2_with fail
    exact finB hR (belowN (Below.refl _ _) _) rfl

set_option maxHeartbeats 4000000 in
set_option maxRecDepth 100000 in
theorem whole7_yes (p m d n : Nat) (L : List (Int × List UInt8)) (w : World) (h : JAt w p m d n L) (hL : L ≠ []) (hn : n ≤ L.length) (hn2 : n ≤ 5000) (hb : ∀ p ∈ L, p.2.length ≤ 4096) (hd : digest (jtext L n) = d) :
    RetB Try.prog 27 #[.pointer (some ⟨p, 0, none⟩)] w (.tuple #[.string (S (jtext L n)), .bool true]) := by
  refine RetB.intro fun R hR => ?_
  obtain ⟨j0, y0, y1, y2⟩ := h.1.c3
  have hln := fun q ty => (show SMap (w.drewN q) m L from h.2).len ty
  have q2 : ((L.length : Int) == 0) = false := by have := List.length_pos_iff.2 hL; simp; omega
  have q3 : ((L.length : Int) = 0) = False := eq_false (by have := List.length_pos_iff.2 hL; omega)
  have q4 : ((L.length : Int) < (n : Int)) = False := eq_false (by omega)
  have q5 : (L.length < n) = False := eq_false (by omega)
  have HB := Lib.hid hb
  have HL := Lib.hid hn
  have cd := fun w => digest7 (jtext L n) w (by have := jtext_len hb n; omega)
  rw [hd] at cd
  have CD := Lib.hid cd
  clear hL hn hb hd cd
  go_enter Try.func27, Try.ntmps27
  go_wp2_with fail
  go_quiet (fail)
  have G0 : Below w.heap.size w (w.drewN nq) := belowN (Below.refl _ _) _
  have J0 : JAt (w.drewN nq) p m d n L := h
  generalize w.drewN nq = w1 at G0 J0 ⊢
  clear h y0 y1 y2 hln q2 q3 q4 q5 j0
  obtain ⟨j0, y0, y1, y2⟩ := J0.1.c3
  have H0 := Lib.hid J0
  clear J0
  go_wp2_with fail
  clear y0 y1 y2
  go_loopw [5, 29] (fun (a5 a29 : Value) (W : World) => ∃ k : Nat, k ≤ n ∧ a29 = .int .i64 (k : Int) ∧ Bld 77 w1.heap.size w1.heap.size (jtext L k) W ∧ Below w1.heap.size w1 W) (fun (a5 a29 : Value) (W : World) => (n - intOf a29).toNat)
  case atStart => exact ⟨0, by omega, rfl, Bld.fresh _ _ w1 (Nat.le_refl _), below_all (Below.refl _ _)⟩
  case round =>
    obtain ⟨k, hk, rfl, hbl, hnx⟩ := hrel
    have J := H0.out.below hnx
    obtain ⟨j1, y0, y1, y2⟩ := J.1.c3
    by_cases hkn : k < n
    · have hlk := J.2.look (k : Int) (wf_i64 (by omega) (by omega))
      have hst := Lib.hid (jtext_step L k)
      have hl1 := jtext_len HB.out k
      have hl2 := mfind_bd HB.out (k : Int)
      generalize (mfind L (k : Int)).getD [] = tx at *
      have hz := hnx.size
      clear J
      go_wp2_with fail
      refine bwrite 77 (by decide) lies7 tx hbl (by omega) hz ?_
      intro w3 h3 hb3 hk3
      go_wp2_with fail
      go_roundw
      case rel => exact ⟨k + 1, by omega, by go_num, by rw [hst.out]; exact h3, hnx.trans hb3⟩
      case measure => simp [intOf]; omega
    · obtain rfl : k = n := by omega
      clear J y0 y1 y2 j1
      go_wp2_with fail
      refine (Try.Builder_String_any_k w1.heap.size w1.heap.size _ _ hbl hnx.size).mono ?_
      rintro e w4 ⟨rfl, _, hb4, _⟩
      have G4 : Below w1.heap.size w1 w4 := hnx.trans hb4
      have J4 := H0.out.below G4
      obtain ⟨j1, y0, y1, y2⟩ := J4.1.c3
      have G5 := below_any (Nat.le_refl _) G0 G4
      clear hb4 hbl hnx
      have q6 : ((d : Int) == (d : Int)) = true := by simp
      go_wp2_with fail
      go_region_held3 (fun w' => w'.cell? ⟨p, 0, none⟩ = some (.int .u64 (d : Nat)) ∧ w'.cell? ⟨p, 1, none⟩ = some (.int .i64 (k : Int)) ∧ w'.cell? ⟨p, 2, none⟩ = some (.map (some m))) (go_keep) ((go_at_call 16; refine (CD.out _).use ?_; intro w5 hb5; have z0 := hb5.cell (p := ⟨p, 0, none⟩) (cell_lt (b := p) (off := 0) (v := .int .u64 (d : Nat)) (by assumption)); have z1 := hb5.cell (p := ⟨p, 1, none⟩) (cell_lt (b := p) (off := 0) (v := .int .u64 (d : Nat)) (by assumption)); have z2 := hb5.cell (p := ⟨p, 2, none⟩) (cell_lt (b := p) (off := 0) (v := .int .u64 (d : Nat)) (by assumption))))
      go_wp2_with fail
      exact finB hR (below_any (Nat.le_refl _) G5 (by repeat (first | assumption | exact Below.refl _ _ | refine below_all ?_ | refine below_any (Nat.le_refl _) ?_ (by assumption) | refine Below.drew ?_))) rfl
end Go.Proofs.Ytohplhahghilaaa
