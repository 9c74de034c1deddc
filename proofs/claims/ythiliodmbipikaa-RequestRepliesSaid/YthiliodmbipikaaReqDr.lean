/-
  Layer 4, the document: may a reply be?
-/
import Derived.Test.YthiliodmbipikaaReqD1
import Derived.Test.YthiliodmbipikaaReqCk
import Derived.Test.YthiliodmbipikaaReqW1
import Derived.Deep.DeepCutAuto
set_option linter.unusedVariables false
set_option linter.unusedSimpArgs false
namespace Go.Proofs.Ythiliodmbipikaa
open Go.RowKit
attribute [local go_sem] ByteArray.extract_mk ByteArray.mk_append_mk

theorem any_at {α : Type} {l : List α} {k : Nat} (h : k < l.length) {p : α → Bool} (hp : p l[k] = true) : l.any p = true := by
  rw [List.any_eq_true]; exact ⟨l[k], List.getElem_mem h, hp⟩
theorem start1c (w : World) (A1 : Array Value) (T1 : TypeId) : ∃ W0, w.alloc (.cells A1 T1) = W0 ∧ Below w.heap.size w W0 ∧ Blk W0 w.heap.size A1 T1 ∧ W0.heap.size = w.heap.size + 1 :=
  ⟨_, rfl, below_all (Below.refl _ _), Blk.new w _ _, by simp⟩
set_option maxHeartbeats 4000000 in
set_option maxRecDepth 100000 in
theorem right4 (r : Rep) (fv pv : Value) (w : World) (hi : RepIn w r fv pv) (hb : RepBd r) :
    RetB Try.prog 52 #[.agg (r.arr fv pv)] w (.int .i64 (repCheck r : Nat)) := by
  refine RetB.intro fun R hR => ?_
  have HC := Lib.hid (fun (b3 b4 : Bool) (h3 : b3 = r.nums) (h4 : b4 = r.odd) => repCheck_by h3 h4)
  obtain ⟨e, off, n, gen, found, parts⟩ := r
  obtain ⟨hf, hp⟩ := hi
  obtain ⟨hb1, hb2⟩ := hb
  dsimp only [Rep.arr, Rep.nums, Rep.odd] at *
  obtain ⟨fa, fc, hfv⟩ := hf.form
  obtain ⟨pa, pc, hpv⟩ := hp.form
  subst hfv hpv
  have HF := Lib.hid (fun W (hW : Below w.heap.size w W) => hf.below hW)
  have HP := Lib.hid (fun W (hW : Below w.heap.size w W) => hp.below hW)
  clear hf hp
  have HB1 := Lib.hid hb1.2
  have HB2 := Lib.hid hb2.2
  have l1 := hb1.1
  have l2 := hb2.1
  clear hb1 hb2
  have cN := Lib.hid (fun n w => rnum_any n w)
  obtain ⟨X, hX⟩ : ∃ X, repCheck ⟨e, off, n, gen, found, parts⟩ = X := ⟨_, rfl⟩
  rw [hX] at HC hR
  clear hX
  obtain ⟨W0, hW0, B0, q0, sz0⟩ := start1c w #[.int .i64 e, .int .i64 off, .int .i64 n, .int .i64 gen, .slice fa found.length fc, .slice pa parts.length pc] 38
  have HB0 := Lib.hid B0
  have HQ0 := Lib.hid q0
  obtain ⟨k0, x0, x1, x2, x3, x4, x5⟩ := arr6_cells q0
  clear B0 q0 sz0
  go_enter Try.func52, Try.ntmps52
  go_upto_region 1 with fail
  try rw [hW0]
  clear hW0
  go_cut [3] (fun v3 wx => v3 = .bool (numB e && numB off && numB n && numB gen) ∧ wx = W0)
  case first =>
    cases q0 : numB e <;> cases q1 : numB off <;> cases q2 : numB n
    all_goals
      go_wp2_with (go_at_call 34; refine (show Ret _ _ _ _ _ from cN.out _ _).use ?_)
      go_meet
      exact ⟨by simp [q0, q1, q2], rfl⟩
  case rest =>
    obtain ⟨rfl, rfl⟩ := hcut
    obtain ⟨N, hN⟩ : ∃ N, (numB e && numB off && numB n && numB gen) = N := ⟨_, rfl⟩
    rw [hN] at HC
    simp only [hN]
    clear hN
    go_wp2_with fail
    go_loopw [3, 4] (fun (v3 v4 : Value) (wr : World) => ∃ (k : Nat) (b3 : Bool), k ≤ found.length ∧ v4 = .int .i64 (k : Int) ∧ v3 = .bool b3 ∧ Hid (b3 = (N && (found.take k).all fNum)) ∧ Below w.heap.size w wr ∧ Blk wr w.heap.size #[.int .i64 e, .int .i64 off, .int .i64 n, .int .i64 gen, .slice fa found.length fc, .slice pa parts.length pc] 38) (fun (v3 v4 : Value) (wr : World) => (found.length - intOf v4).toNat)
    case atStart => exact ⟨0, N, by omega, rfl, rfl, Lib.hid (by simp), HB0.out, HQ0.out⟩
    case round =>
      clear x0 x1 x2 x3 x4 x5 k0 HB0 HQ0
      obtain ⟨k, b3, hk, rfl, rfl, h3, hB, hQ⟩ := hrel
      have HQ := Lib.hid hQ
      obtain ⟨k0, x0, x1, x2, x3, x4, x5⟩ := arr6_cells hQ
      clear hQ
      by_cases hkl : k < found.length
      · obtain ⟨b, o, hae, hbl, hc⟩ : ∃ b o, fa = some ⟨b, o, none⟩ ∧ b < wr.heap.size ∧ FndAt wr b (o + k * 5) found[k] := by
          rcases HF.out _ hB with ⟨h0, _⟩ | ⟨b, o, cap, he, _, _, hl, hc⟩
          · subst h0; simp at hkl
          · simp only [Value.slice.injEq] at he
            exact ⟨b, o, he.1, hl, hc k hkl⟩
        subst hae
        have s3 := Lib.hid (all_snocT found k hkl fNum)
        generalize found[k] = f at *
        obtain ⟨fo, fk, fkey, ft, fval⟩ := f
        obtain ⟨c0, c1, c2, c3, c4⟩ := hc
        have s3 : Hid ((found.take (k + 1)).all fNum = ((found.take k).all fNum && numB fo)) := s3
        dsimp only at c0
        clear c1 c2 c3 c4
        have i1 : (0 : Int) ≤ (k : Int) := by omega
        have i2 : (k : Int) < (found.length : Int) := by omega
        have cNf := Lib.hid (fun w => rnum_any fo w)
        generalize numB fo = nb at *
        cases b3
        all_goals
          go_wp2_with (first | (go_at_call 34; refine (show Ret _ _ _ _ _ from cNf.out _).use ?_))
          go_roundw
        all_goals first
          | exact ⟨k + 1, _, by omega, by go_num, rfl, Lib.hid (by rw [s3.out, ← Bool.and_assoc, ← h3.out]; rfl), hB, HQ.out⟩
          | (simp [intOf]; omega)
      · have hle : found.length ≤ k := by omega
        have h3' : Hid (b3 = (N && found.all fNum)) := Lib.hid (by have h := h3.out; rwa [List.take_of_length_le hle] at h)
        clear h3
        obtain ⟨w1, rfl⟩ : ∃ w1, w1 = wr := ⟨_, rfl⟩
        go_wp2_with fail
        go_loopw [3, 5] (fun (v3 v5 : Value) (wr : World) => ∃ (k : Nat) (c3 : Bool), k ≤ parts.length ∧ v5 = .int .i64 (k : Int) ∧ v3 = .bool c3 ∧ Hid (c3 = (b3 && (parts.take k).all pNum)) ∧ Below w.heap.size w wr ∧ Blk wr w.heap.size #[.int .i64 e, .int .i64 off, .int .i64 n, .int .i64 gen, .slice fa found.length fc, .slice pa parts.length pc] 38) (fun (v3 v5 : Value) (wr : World) => (parts.length - intOf v5).toNat)
        case atStart => exact ⟨0, b3, by omega, rfl, rfl, Lib.hid (by simp), hB, HQ.out⟩
        case round =>
          clear hB HQ k0 x0 x1 x2 x3 x4 x5
          obtain ⟨k2, c3, hk2, rfl, rfl, h3, hB, hQ⟩ := hrel
          have HQ := Lib.hid hQ
          obtain ⟨k0, x0, x1, x2, x3, x4, x5⟩ := arr6_cells hQ
          clear hQ
          by_cases hkl2 : k2 < parts.length
          · obtain ⟨b, o, hae, hbl, hc⟩ : ∃ b o, pa = some ⟨b, o, none⟩ ∧ b < wr.heap.size ∧ PartAt wr b (o + k2 * 2) parts[k2] := by
              rcases HP.out _ hB with ⟨h0, _⟩ | ⟨b, o, cap, he, _, hl, hc⟩
              · subst h0; simp at hkl2
              · simp only [Value.slice.injEq] at he
                exact ⟨b, o, he.1, hl, hc k2 hkl2⟩
            subst hae
            have s3 := Lib.hid (all_snocT parts k2 hkl2 pNum)
            generalize parts[k2] = f at *
            obtain ⟨pt, pn⟩ := f
            obtain ⟨z0, z1⟩ := hc
            have s3 : Hid ((parts.take (k2 + 1)).all pNum = ((parts.take k2).all pNum && numB pn)) := s3
            dsimp only at z1
            clear z0
            have i1 : (0 : Int) ≤ (k2 : Int) := by omega
            have i2 : (k2 : Int) < (parts.length : Int) := by omega
            have cNf := Lib.hid (fun w => rnum_any pn w)
            generalize numB pn = nb at *
            cases c3
            all_goals
              go_wp2_with (first | (go_at_call 34; refine (show Ret _ _ _ _ _ from cNf.out _).use ?_))
              go_roundw
            all_goals first
              | exact ⟨k2 + 1, _, by omega, by go_num, rfl, Lib.hid (by rw [s3.out, ← Bool.and_assoc, ← h3.out]; rfl), hB, HQ.out⟩
              | (simp [intOf]; omega)
          · have hle2 : parts.length ≤ k2 := by omega
            have hfin := Lib.hid (fun (b4 : Bool) h4 => HC.out c3 b4 (by have h := h3.out; rw [List.take_of_length_le hle2, h3'.out] at h; exact h) h4)
            clear h3 h3' HC
            cases c3
            · have hx : X = 1 := by have h := hfin.out _ rfl; rw [if_pos rfl] at h; exact h
              subst hx
              clear hfin
              go_wp2_with fail
              exact finB hR hB rfl
            · by_cases g1 : 64 < found.length
              · have t1 : ((64 : Int) < (found.length : Int)) = True := eq_true (by omega)
                have t2 : decide ((64 : Int) < (found.length : Int)) = true := decide_eq_true (by omega)
                have hx : X = 2 := by have h := hfin.out _ rfl; rw [if_neg (by simp), if_pos (.inl g1)] at h; exact h
                subst hx
                clear hfin g1
                go_wp2_with fail
                exact finB hR hB rfl
              · have t1 : ((64 : Int) < (found.length : Int)) = False := eq_false (by omega)
                have t2 : decide ((64 : Int) < (found.length : Int)) = false := decide_eq_false (by omega)
                by_cases g2 : 64 < parts.length
                · have t3 : ((64 : Int) < (parts.length : Int)) = True := eq_true (by omega)
                  have t4 : decide ((64 : Int) < (parts.length : Int)) = true := decide_eq_true (by omega)
                  have hx : X = 2 := by have h := hfin.out _ rfl; rw [if_neg (by simp), if_pos (.inr g2)] at h; exact h
                  subst hx
                  clear hfin g1 g2
                  go_wp2_with fail
                  exact finB hR hB rfl
                · have t3 : ((64 : Int) < (parts.length : Int)) = False := eq_false (by omega)
                  have t4 : decide ((64 : Int) < (parts.length : Int)) = false := decide_eq_false (by omega)
                  have hx := Lib.hid (fun (b4 : Bool) h4 => (show X = if b4 = true then 40 else 0 by have h := hfin.out b4 h4; rw [if_neg (by simp), if_neg (by simp; omega)] at h; exact h))
                  clear hfin g1 g2
                  obtain ⟨w2, rfl⟩ : ∃ w2, w2 = wr := ⟨_, rfl⟩
                  go_wp2_with fail
                  clear t1 t2 t3 t4
                  go_loopw [6] (fun (v6 : Value) (wr : World) => ∃ (k : Nat), k ≤ found.length ∧ v6 = .int .i64 (k : Int) ∧ Hid ((found.take k).any fOdd = false) ∧ Below w.heap.size w wr ∧ Blk wr w.heap.size #[.int .i64 e, .int .i64 off, .int .i64 n, .int .i64 gen, .slice fa found.length fc, .slice pa parts.length pc] 38) (fun (v6 : Value) (wr : World) => (found.length - intOf v6).toNat)
                  case atStart => exact ⟨0, by omega, rfl, Lib.hid (by simp), hB, HQ.out⟩
                  case round =>
                    clear hB HQ k0 x0 x1 x2 x3 x4 x5
                    obtain ⟨k3, hk3, rfl, h3, hB, hQ⟩ := hrel
                    have HQ := Lib.hid hQ
                    obtain ⟨k0, x0, x1, x2, x3, x4, x5⟩ := arr6_cells hQ
                    clear hQ
                    by_cases hkl3 : k3 < found.length
                    · obtain ⟨b, o, hae, hbl, hc⟩ : ∃ b o, fa = some ⟨b, o, none⟩ ∧ b < wr.heap.size ∧ FndAt wr b (o + k3 * 5) found[k3] := by
                        rcases HF.out _ hB with ⟨h0, _⟩ | ⟨b, o, cap, he, _, _, hl, hc⟩
                        · subst h0; simp at hkl3
                        · simp only [Value.slice.injEq] at he
                          exact ⟨b, o, he.1, hl, hc k3 hkl3⟩
                      subst hae
                      have s4 := Lib.hid (any_snocT found k3 hkl3 fOdd)
                      have s5 := Lib.hid (fun h => any_at hkl3 (p := fOdd) h)
                      have hrb := HB1.out found[k3] (List.getElem_mem hkl3)
                      have hfo := Lib.hid (fOdd_eq found[k3])
                      generalize found[k3] = f at *
                      obtain ⟨fo, fk, fkey, ft, fval⟩ := f
                      obtain ⟨c0, c1, c2, c3, c4⟩ := hc
                      have cC := Lib.hid (fun w => r3check_any fk ft fkey fval w hrb.1 hrb.2)
                      dsimp only at c0 c1 c2 c3 c4 hfo
                      obtain ⟨Y, hY⟩ : ∃ Y, rcheck fk fkey ft fval = Y := ⟨_, rfl⟩
                      rw [hY] at cC hfo
                      clear hY hrb
                      have i1 : (0 : Int) ≤ (k3 : Int) := by omega
                      have i2 : (k3 : Int) < (found.length : Int) := by omega
                      by_cases hY0 : Y = 0
                      · subst hY0
                        have hn : Hid ((found.take (k3 + 1)).any fOdd = false) := Lib.hid (by rw [s4.out, h3.out, hfo.out]; rfl)
                        clear s4 s5 h3 hfo
                        go_wp2_with fail
                        refine (cC.out _).use ?_
                        intro w3 b3
                        have hQ3 := HQ.out.below b3
                        go_wp2_with fail
                        go_roundw
                        case rel => exact ⟨k3 + 1, by omega, by go_num, hn, below_any (Nat.le_refl _) hB b3, hQ3⟩
                        case measure => simp [intOf]; omega
                      · have hx2 : X = 40 := by
                          have h := hx.out true (by rw [s5.out (by rw [hfo.out]; simpa using hY0)]; rfl)
                          rw [if_pos rfl] at h; exact h
                        subst hx2
                        have t1 : ((Y : Int) = 0) = False := eq_false (by omega)
                        clear s4 s5 h3 hfo hx
                        go_wp2_with fail
                        refine (cC.out _).use ?_
                        intro w3 b3
                        go_wp2_with fail
                        exact finB hR (below_any (Nat.le_refl _) hB b3) rfl
                    · have hle3 : found.length ≤ k3 := by omega
                      have h3' : Hid (found.any fOdd = false) := Lib.hid (by have h := h3.out; rwa [List.take_of_length_le hle3] at h)
                      clear h3
                      obtain ⟨w3, rfl⟩ : ∃ w3, w3 = wr := ⟨_, rfl⟩
                      go_wp2_with fail
                      go_loopw [7] (fun (v7 : Value) (wr : World) => ∃ (k : Nat), k ≤ parts.length ∧ v7 = .int .i64 (k : Int) ∧ Hid ((parts.take k).any pOdd = false) ∧ Below w.heap.size w wr ∧ Blk wr w.heap.size #[.int .i64 e, .int .i64 off, .int .i64 n, .int .i64 gen, .slice fa found.length fc, .slice pa parts.length pc] 38) (fun (v7 : Value) (wr : World) => (parts.length - intOf v7).toNat)
                      case atStart => exact ⟨0, by omega, rfl, Lib.hid (by simp), hB, HQ.out⟩
                      case round =>
                        clear hB HQ k0 x0 x1 x2 x3 x4 x5
                        obtain ⟨k4, hk4, rfl, h4, hB, hQ⟩ := hrel
                        have HQ := Lib.hid hQ
                        obtain ⟨k0, x0, x1, x2, x3, x4, x5⟩ := arr6_cells hQ
                        clear hQ
                        by_cases hkl4 : k4 < parts.length
                        · obtain ⟨b, o, hae, hbl, hc⟩ : ∃ b o, pa = some ⟨b, o, none⟩ ∧ b < wr.heap.size ∧ PartAt wr b (o + k4 * 2) parts[k4] := by
                            rcases HP.out _ hB with ⟨h0, _⟩ | ⟨b, o, cap, he, _, hl, hc⟩
                            · subst h0; simp at hkl4
                            · simp only [Value.slice.injEq] at he
                              exact ⟨b, o, he.1, hl, hc k4 hkl4⟩
                          subst hae
                          have s4 := Lib.hid (any_snocT parts k4 hkl4 pOdd)
                          have s5 := Lib.hid (fun h => any_at hkl4 (p := pOdd) h)
                          have hrb := HB2.out parts[k4] (List.getElem_mem hkl4)
                          generalize parts[k4] = f at *
                          obtain ⟨pt, pn⟩ := f
                          obtain ⟨z0, z1⟩ := hc
                          have cC := Lib.hid (fun w => rname4 pt w hrb)
                          have s4 : Hid ((parts.take (k4 + 1)).any pOdd = ((parts.take k4).any pOdd || !isName pt)) := s4
                          have s5 : Hid ((!isName pt) = true → parts.any pOdd = true) := s5
                          dsimp only at z0
                          clear hrb z1
                          have i1 : (0 : Int) ≤ (k4 : Int) := by omega
                          have i2 : (k4 : Int) < (parts.length : Int) := by omega
                          generalize isName pt = mb at *
                          cases mb
                          · have hx2 : X = 40 := by
                              have h := hx.out true (by rw [s5.out rfl]; simp)
                              rw [if_pos rfl] at h; exact h
                            subst hx2
                            clear s4 s5 h4 hx
                            go_wp2_with fail
                            refine (show Ret _ _ _ _ _ from cC.out _).use ?_
                            go_wp2_with fail
                            exact finB hR hB rfl
                          · have hn : Hid ((parts.take (k4 + 1)).any pOdd = false) := Lib.hid (by rw [s4.out, h4.out]; rfl)
                            clear s4 s5 h4
                            go_wp2_with fail
                            refine (show Ret _ _ _ _ _ from cC.out _).use ?_
                            go_wp2_with fail
                            go_roundw
                            case rel => exact ⟨k4 + 1, by omega, by go_num, hn, hB, HQ.out⟩
                            case measure => simp [intOf]; omega
                        · have hle4 : parts.length ≤ k4 := by omega
                          have hx2 : X = 0 := by
                            have h := hx.out false (by have h := h4.out; rw [List.take_of_length_le hle4] at h; rw [h, h3'.out]; rfl)
                            rw [if_neg (by simp)] at h; exact h
                          subst hx2
                          clear h4 hx
                          go_wp2_with fail
                          exact finB hR hB rfl
end Go.Proofs.Ythiliodmbipikaa
