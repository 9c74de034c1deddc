import Derived.Test.YtohplhahghilaaaChkO
/-
  Layer 7: a gatherer that holds another text: cleared.
-/
set_option linter.unusedVariables false
set_option linter.unusedSimpArgs false
namespace Go.Proofs.Ytohplhahghilaaa
open Go.RowKit Go.Maps Go.ChangeMaps Go.MapKept
attribute [local go_sem] ByteArray.extract_mk ByteArray.mk_append_mk

theorem SMap.clear {w : World} {m : Nat} {L : List (Int × List UInt8)} (h : SMap w m L) : ∃ c : Nat, (∀ ty, (Builtin.clear_ #[112] ty #[.map (some m)]).run Try.prog w = .ok (.tuple #[]) (setBlock w m (.map #[] c))) ∧ SMap (setBlock w m (.map #[] c)) m [] ∧ w.grownBy (setBlock w m (.map #[] c)) (some m) := by
  obtain ⟨D, ⟨es, clock, hb, F, hs, rfl⟩, h2⟩ := h
  refine ⟨clock, fun ty => ?_, ⟨.map [], ⟨#[], clock, heap_setBlock_same hb _, ⟨by simp, stamped_empty _, by simp⟩, Nat.le_refl _, rfl⟩, Rep.nil⟩, grown_block hb _⟩
  simp [Builtin.clear_, run_underlying Try.underlying112, MapKept.run_getObj_map hb, MapKept.run_setObj_map _ hb, Result.andThen, setBlock]

set_option maxHeartbeats 4000000 in
set_option maxRecDepth 100000 in
theorem whole7_clear (p m d n : Nat) (L : List (Int × List UInt8)) (w : World) (h : JAt w p m d n L) (hL : L ≠ []) (hn : n ≤ L.length) (hn2 : n ≤ 5000) (hb : ∀ p ∈ L, p.2.length ≤ 4096) (hd : digest (jtext L n) ≠ d) :
    JCall 27 #[.pointer (some ⟨p, 0, none⟩)] w p m d (.tuple #[.string (S []), .bool false]) n [] := by
  refine JCall.intro fun R hR => ?_
  obtain ⟨j0, y0, y1, y2⟩ := h.1.c3
  have hln := fun q ty => (show SMap (w.drewN q) m L from h.2).len ty
  have q2 : ((L.length : Int) == 0) = false := by have := List.length_pos_iff.2 hL; simp; omega
  have q3 : ((L.length : Int) = 0) = False := eq_false (by have := List.length_pos_iff.2 hL; omega)
  have q4 : ((L.length : Int) < (n : Int)) = False := eq_false (by omega)
  have q5 : (L.length < n) = False := eq_false (by omega)
  have HB := Lib.hid hb
  have HL := Lib.hid hn
  have cd := fun w => digest7 (jtext L n) w (by have := jtext_len hb n; omega)
  obtain ⟨dg, hdg⟩ : ∃ x, digest (jtext L n) = x := ⟨_, rfl⟩
  rw [hdg] at cd hd
  have HD := Lib.hid hd
  have CD := Lib.hid cd
  clear hL hn hb hd cd hdg
  go_enter Try.func27, Try.ntmps27
  go_wp2_with fail
  go_quiet (fail)
  have G0 : Below w.heap.size w (w.drewN nq) := belowN (Below.refl _ _) _
  have J0 : JAt (w.drewN nq) p m d n L := h
  generalize w.drewN nq = w1 at G0 J0 ⊢
  clear h y0 y1 y2 hln q2 q3 q4 q5 j0
  obtain ⟨j0, y0, y1, y2⟩ := J0.1.c3
  have H0 := Lib.hid J0
  clear J0
  go_wp2_with fail
  clear y0 y1 y2
  go_loopw [5, 29] (fun (a5 a29 : Value) (W : World) => ∃ k : Nat, k ≤ n ∧ a29 = .int .i64 (k : Int) ∧ Bld 77 w1.heap.size w1.heap.size (jtext L k) W ∧ Below w1.heap.size w1 W) (fun (a5 a29 : Value) (W : World) => (n - intOf a29).toNat)
  case atStart => exact ⟨0, by omega, rfl, Bld.fresh _ _ w1 (Nat.le_refl _), below_all (Below.refl _ _)⟩
  case round =>
    obtain ⟨k, hk, rfl, hbl, hnx⟩ := hrel
    have J := H0.out.below hnx
    obtain ⟨j1, y0, y1, y2⟩ := J.1.c3
    by_cases hkn : k < n
    · have hlk := J.2.look (k : Int) (wf_i64 (by omega) (by omega))
      have hst := Lib.hid (jtext_step L k)
      have hl1 := jtext_len HB.out k
      have hl2 := mfind_bd HB.out (k : Int)
      generalize (mfind L (k : Int)).getD [] = tx at *
      have hz := hnx.size
      clear J
      go_wp2_with fail
      refine bwrite 77 (by decide) lies7 tx hbl (by omega) hz ?_
      intro w3 h3 hb3 hk3
      go_wp2_with fail
      go_roundw
      case rel => exact ⟨k + 1, by omega, by go_num, by rw [hst.out]; exact h3, hnx.trans hb3⟩
      case measure => simp [intOf]; omega
    · obtain rfl : k = n := by omega
      clear J y0 y1 y2 j1
      go_wp2_with fail
      refine (Try.Builder_String_any_k w1.heap.size w1.heap.size _ _ hbl hnx.size).mono ?_
      rintro e w4 ⟨rfl, _, hb4, _⟩
      have G4 : Below w1.heap.size w1 w4 := hnx.trans hb4
      have J4 := H0.out.below G4
      obtain ⟨j1, y0, y1, y2⟩ := J4.1.c3
      have G5 := below_any (Nat.le_refl _) G0 G4
      clear hb4 hbl hnx
      have q6 : ((dg : Int) == (d : Int)) = false := by have := HD.out; simp; omega
      go_wp2_with fail
      go_region_held3 (fun w' => w'.cell? ⟨p, 0, none⟩ = some (.int .u64 (d : Nat)) ∧ w'.cell? ⟨p, 1, none⟩ = some (.int .i64 (k : Int)) ∧ w'.cell? ⟨p, 2, none⟩ = some (.map (some m))) (go_keep) ((go_at_call 16; refine (CD.out _).use ?_; intro w5 hb5; have z0 := hb5.cell (p := ⟨p, 0, none⟩) (cell_lt (b := p) (off := 0) (v := .int .u64 (d : Nat)) (by assumption)); have z1 := hb5.cell (p := ⟨p, 1, none⟩) (cell_lt (b := p) (off := 0) (v := .int .u64 (d : Nat)) (by assumption)); have z2 := hb5.cell (p := ⟨p, 2, none⟩) (cell_lt (b := p) (off := 0) (v := .int .u64 (d : Nat)) (by assumption))))
      have J5 : JAt w5 p m d k L := J4.below (by repeat (first | assumption | exact Below.refl _ _ | refine below_all ?_ | refine below_any (Nat.le_refl _) ?_ (by assumption) | refine Below.drew ?_))
      have G6 : Below w.heap.size w w5 := below_any (Nat.le_refl _) G5 (by repeat (first | assumption | exact Below.refl _ _ | refine below_all ?_ | refine below_any (Nat.le_refl _) ?_ (by assumption) | refine Below.drew ?_))
      obtain ⟨c, hc1, hc2, hc3⟩ := J5.2.clear
      have J6 : JAt (setBlock w5 m (.map #[] c)) p m d k [] := ⟨J5.1.grown hc3 (fun e => J5.ne (Option.some.inj e)), hc2⟩
      have K6 : Kept [p, m] w (setBlock w5 m (.map #[] c)) := (Kept.ofBelow G6 [p, m]).trans (Kept.ofGrown hc3) (by simp)
      obtain ⟨j5, z0, z1, z2⟩ := J5.1.c3
      have HJ6 := Lib.hid J6
      have HK6 := Lib.hid K6
      clear hc2 hc3 J6 K6 J5 G6
      generalize setBlock w5 m (.map #[] c) = w6 at *
      go_wp2_with fail
      exact hR.out _ HJ6.out HK6.out
end Go.Proofs.Ytohplhahghilaaa
