/-
  Layer 4: may a reply be?
-/
import Derived.Test.YthiliodmbipikaaGreatReqS1
import Derived.Test.YthiliodmbipikaaGreatReqC
import Derived.Deep.DeepCutAuto
set_option linter.unusedVariables false
set_option linter.unusedSimpArgs false
namespace Go.Proofs.YthiliodmbipikaaGreat
open Go.RowKit
attribute [local go_sem] ByteArray.extract_mk ByteArray.mk_append_mk

theorem repCheck_by {r : Rep} {b3 b4 : Bool} (h3 : b3 = r.nums) (h4 : b4 = r.odd) : repCheck r = if b3 = false then 1 else if 64 < r.found.length ∨ 64 < r.parts.length then 2 else if b4 then 40 else 0 := by
  subst h3 h4; rfl
theorem all_snocT {α : Type} (l : List α) (k : Nat) (h : k < l.length) (p : α → Bool) : (l.take (k + 1)).all p = ((l.take k).all p && p l[k]) := by
  rw [List.take_succ_eq_append_getElem h, List.all_append]; simp
theorem any_snocT {α : Type} (l : List α) (k : Nat) (h : k < l.length) (p : α → Bool) : (l.take (k + 1)).any p = ((l.take k).any p || p l[k]) := by
  rw [List.take_succ_eq_append_getElem h, List.any_append]; simp
theorem fOdd_eq (f : Fnd) : fOdd f = (((rcheck f.r.hk f.r.key f.r.tb f.r.val : Nat) : Int) != 0) := by
  unfold fOdd Rec.ok
  by_cases h : rcheck f.r.hk f.r.key f.r.tb f.r.val = 0 <;> simp [h]
theorem int_ne0 (x : Nat) : ((x : Int) != 0) = !decide (x = 0) := by by_cases h : x = 0 <;> simp [h]
set_option maxHeartbeats 4000000 in
set_option maxRecDepth 100000 in
theorem repcheck4 (r : Rep) (fv pv : Value) (w : World) (hi : RepIn w r fv pv) (hb : RepBd r) :
    RetB Tryz.prog 37 #[.agg (r.arr fv pv)] w (.int .i64 (repCheck r : Nat)) := by
  refine RetB.intro fun R hR => ?_
  have HC := Lib.hid (fun (b3 b4 : Bool) (h3 : b3 = r.nums) (h4 : b4 = r.odd) => repCheck_by h3 h4)
  obtain ⟨e, off, n, gen, found, parts⟩ := r
  obtain ⟨hf, hp⟩ := hi
  obtain ⟨hb1, hb2⟩ := hb
  dsimp only [Rep.arr, Rep.nums, Rep.odd] at *
  obtain ⟨fa, fc, hfv⟩ := hf.form
  obtain ⟨pa, pc, hpv⟩ := hp.form
  have HF := Lib.hid (show FndsIn w (.slice fa found.length fc) found from hfv ▸ hf)
  have HP := Lib.hid (show PartsIn w (.slice pa parts.length pc) parts from hpv ▸ hp)
  subst hfv hpv
  clear hf hp
  have HB1 := Lib.hid hb1.2
  have HB2 := Lib.hid hb2.2
  have l1 := hb1.1
  have l2 := hb2.1
  clear hb1 hb2
  have cN := Lib.hid (fun n w => number4_any n w)
  obtain ⟨X, hX⟩ : ∃ X, repCheck ⟨e, off, n, gen, found, parts⟩ = X := ⟨_, rfl⟩
  rw [hX] at HC hR
  clear hX
  have q0 : Blk (w.alloc (.cells #[.int .i64 e, .int .i64 off, .int .i64 n, .int .i64 gen, .slice fa found.length fc, .slice pa parts.length pc] 58)) w.heap.size #[.int .i64 e, .int .i64 off, .int .i64 n, .int .i64 gen, .slice fa found.length fc, .slice pa parts.length pc] 58 := Blk.new w _ _
  have HQ0 := Lib.hid q0
  clear q0
  go_enter Tryz.func37, Tryz.ntmps37
  go_upto_region 1 with fail
  go_cut [3] (fun v3 wx => v3 = .bool (numB e && numB off && numB n && numB gen) ∧ wx = w.alloc (.cells #[.int .i64 e, .int .i64 off, .int .i64 n, .int .i64 gen, .slice fa found.length fc, .slice pa parts.length pc] 58))
  case first =>
    cases q0 : numB e <;> cases q1 : numB off <;> cases q2 : numB n
    all_goals
      go_wp2_with (go_at_call 62; refine (show Ret _ _ _ _ _ from cN.out _ _).use ?_)
      go_meet
      exact ⟨by simp [q0, q1, q2], rfl⟩
  case rest =>
    obtain ⟨rfl, rfl⟩ := hcut
    obtain ⟨N, hN⟩ : ∃ N, (numB e && numB off && numB n && numB gen) = N := ⟨_, rfl⟩
    rw [hN] at HC
    simp only [hN]
    clear hN
    go_wp2_with fail
    go_loopw [3, 4, 6, 30] (fun (v3 v4 v6 v30 : Value) (wr : World) => ∃ (k : Nat) (b3 b4 : Bool), k ≤ found.length ∧ v30 = .int .i64 (k : Int) ∧ v3 = .bool b3 ∧ v4 = .bool b4 ∧ Hid (b3 = (N && (found.take k).all fNum)) ∧ Hid (b4 = (found.take k).any fOdd) ∧ Below w.heap.size w wr ∧ Blk wr w.heap.size #[.int .i64 e, .int .i64 off, .int .i64 n, .int .i64 gen, .slice fa found.length fc, .slice pa parts.length pc] 58) (fun (v3 v4 v6 v30 : Value) (wr : World) => (found.length - intOf v30).toNat)
    case atStart => exact ⟨0, N, false, by omega, rfl, rfl, rfl, Lib.hid (by simp), Lib.hid (by simp), below_all (Below.refl _ _), HQ0.out⟩
    case round =>
      obtain ⟨k, b3, b4, hk, rfl, rfl, rfl, h3, h4, hB, hQ⟩ := hrel
      have HQ := Lib.hid hQ
      clear hQ
      by_cases hkl : k < found.length
      · have hfin := HF.out.below hB
        obtain ⟨b, o, hae, hbl, hc⟩ : ∃ b o, fa = some ⟨b, o, none⟩ ∧ b < wr.heap.size ∧ FndAt wr b (o + k * 5) found[k] := by
          rcases hfin with ⟨h0, _⟩ | ⟨b, o, cap, he, _, _, hl, hc⟩
          · subst h0; simp at hkl
          · simp only [Value.slice.injEq] at he
            exact ⟨b, o, he.1, hl, hc k hkl⟩
        clear hfin
        subst hae
        have s3 := Lib.hid (all_snocT found k hkl fNum)
        have s4 := Lib.hid (any_snocT found k hkl fOdd)
        have hrb := HB1.out found[k] (List.getElem_mem hkl)
        have hfo := Lib.hid (fOdd_eq found[k])
        generalize found[k] = f at *
        obtain ⟨fo, fk, fkey, ft, fval⟩ := f
        obtain ⟨c0, c1, c2, c3, c4⟩ := hc
        have cC := Lib.hid (fun w => check_any fk ft fkey fval w hrb.1 hrb.2)
        have s3 : Hid ((found.take (k + 1)).all fNum = ((found.take k).all fNum && numB fo)) := s3
        dsimp only at c0 c1 c2 c3 c4 hfo
        obtain ⟨Y, hY⟩ : ∃ Y, rcheck fk fkey ft fval = Y := ⟨_, rfl⟩
        rw [hY] at cC hfo
        clear hY hrb
        have i1 : (0 : Int) ≤ (k : Int) := by omega
        have i2 : (k : Int) < (found.length : Int) := by omega
        have cNf := Lib.hid (fun w => number4_any fo w)
        generalize numB fo = nb at *
        cases b3 <;> cases b4
        all_goals
          go_wp2_with (first | (go_at_call 62; refine (show Ret _ _ _ _ _ from cNf.out _).use ?_) | (go_at_call 63; refine (cC.out _).use ?_; intro w2 b2; have hB2 := below_any (Nat.le_refl _) (below_all hB) b2; have hQ2 := (HQ.out.alloc (.cells #[.int .i64 fo, .bool fk, .string (S fkey), .bool ft, .string (S fval)] 95)).below b2))
          go_roundw
        all_goals first
          | exact ⟨k + 1, _, _, by omega, by go_num, rfl, rfl, Lib.hid (by rw [s3.out, ← Bool.and_assoc, ← h3.out]; rfl), Lib.hid (by rw [s4.out, ← h4.out, hfo.out]; rfl), by first | exact hB2 | exact below_all hB, by first | exact hQ2 | exact HQ.out.alloc _⟩
          | (simp [intOf]; omega)
      · have hle : found.length ≤ k := by omega
        have h3' : Hid (b3 = (N && found.all fNum)) := Lib.hid (by have h := h3.out; rwa [List.take_of_length_le hle] at h)
        have h4' : Hid (b4 = found.any fOdd) := Lib.hid (by have h := h4.out; rwa [List.take_of_length_le hle] at h)
        clear h3 h4
        have q1 := HQ.out.cell 5
        have q2 := HQ.out.cell 4
        have q3 := HQ.out.lt
        simp only [List.getElem?_toArray, List.getElem?_cons_succ, List.getElem?_cons_zero] at q1 q2
        obtain ⟨w1, rfl⟩ : ∃ w1, w1 = wr := ⟨_, rfl⟩
        go_wp2_with fail
        go_loopw [3, 4, 8, 51] (fun (v3 v4 v8 v51 : Value) (wr : World) => ∃ (k : Nat) (c3 c4 : Bool), k ≤ parts.length ∧ v51 = .int .i64 (k : Int) ∧ v3 = .bool c3 ∧ v4 = .bool c4 ∧ Hid (c3 = (b3 && (parts.take k).all pNum)) ∧ Hid (c4 = (b4 || (parts.take k).any pOdd)) ∧ Below w.heap.size w wr ∧ Blk wr w.heap.size #[.int .i64 e, .int .i64 off, .int .i64 n, .int .i64 gen, .slice fa found.length fc, .slice pa parts.length pc] 58) (fun (v3 v4 v8 v51 : Value) (wr : World) => (parts.length - intOf v51).toNat)
        case atStart => exact ⟨0, b3, b4, by omega, rfl, rfl, rfl, Lib.hid (by simp), Lib.hid (by simp), hB, HQ.out⟩
        case round =>
          clear hB HQ q1 q2 q3
          obtain ⟨k2, c3, c4, hk2, rfl, rfl, rfl, h3, h4, hB, hQ⟩ := hrel
          have HQ := Lib.hid hQ
          clear hQ
          by_cases hkl2 : k2 < parts.length
          · have hfin := HP.out.below hB
            obtain ⟨b, o, hae, hbl, hc⟩ : ∃ b o, pa = some ⟨b, o, none⟩ ∧ b < wr.heap.size ∧ PartAt wr b (o + k2 * 2) parts[k2] := by
              rcases hfin with ⟨h0, _⟩ | ⟨b, o, cap, he, _, hl, hc⟩
              · subst h0; simp at hkl2
              · simp only [Value.slice.injEq] at he
                exact ⟨b, o, he.1, hl, hc k2 hkl2⟩
            clear hfin
            subst hae
            have s3 := Lib.hid (all_snocT parts k2 hkl2 pNum)
            have s4 := Lib.hid (any_snocT parts k2 hkl2 pOdd)
            have hrb := HB2.out parts[k2] (List.getElem_mem hkl2)
            generalize parts[k2] = f at *
            obtain ⟨pt, pn⟩ := f
            obtain ⟨z0, z1⟩ := hc
            have cC := Lib.hid (fun w => name4 pt w hrb)
            have s3 : Hid ((parts.take (k2 + 1)).all pNum = ((parts.take k2).all pNum && numB pn)) := s3
            have s4 : Hid ((parts.take (k2 + 1)).any pOdd = ((parts.take k2).any pOdd || !isName pt)) := s4
            dsimp only at z0 z1
            clear hrb
            have i1 : (0 : Int) ≤ (k2 : Int) := by omega
            have i2 : (k2 : Int) < (parts.length : Int) := by omega
            have cNf := Lib.hid (fun w => number4_any pn w)
            generalize numB pn = nb at *
            generalize isName pt = mb at *
            cases c3 <;> cases c4
            all_goals
              go_wp2_with (first | (go_at_call 62; refine (show Ret _ _ _ _ _ from cNf.out _).use ?_) | (go_at_call 20; refine (cC.out _).use ?_; intro w2 b2; have hB2 := below_any (Nat.le_refl _) (below_all hB) b2; have hQ2 := (HQ.out.alloc (.cells #[.string (S pt), .int .i64 pn] 23)).below b2))
              go_roundw
            all_goals first
              | exact ⟨k2 + 1, _, _, by omega, by go_num, rfl, rfl, Lib.hid (by rw [s3.out, ← Bool.and_assoc, ← h3.out]; rfl), Lib.hid (by rw [s4.out, ← Bool.or_assoc, ← h4.out]; rfl), by first | exact hB2 | exact below_all hB, by first | exact hQ2 | exact HQ.out.alloc _⟩
              | (simp [intOf]; omega)
          · have hle2 : parts.length ≤ k2 := by omega
            have hfin := Lib.hid (HC.out c3 c4 (by have h := h3.out; rw [List.take_of_length_le hle2, h3'.out] at h; exact h) (by have h := h4.out; rw [List.take_of_length_le hle2, h4'.out] at h; exact h))
            clear h3 h4 h3' h4' HC
            have q1 := HQ.out.cell 5
            have q2 := HQ.out.cell 4
            have q3 := HQ.out.lt
            simp only [List.getElem?_toArray, List.getElem?_cons_succ, List.getElem?_cons_zero] at q1 q2
            cases c3
            · go_wp2_with fail
              exact finB hR hB (veq_int (by rw [hfin.out]; rfl))
            · by_cases g1 : 64 < found.length
              · have t1 : ((64 : Int) < (found.length : Int)) = True := eq_true (by omega)
                have t2 : decide ((64 : Int) < (found.length : Int)) = true := decide_eq_true (by omega)
                have hx : X = 2 := by have h := hfin.out; rw [if_neg (by simp), if_pos (.inl g1)] at h; exact h
                subst hx
                clear hfin g1
                go_wp2_with fail
                exact finB hR hB rfl
              · have t1 : ((64 : Int) < (found.length : Int)) = False := eq_false (by omega)
                have t2 : decide ((64 : Int) < (found.length : Int)) = false := decide_eq_false (by omega)
                by_cases g2 : 64 < parts.length
                · have t3 : ((64 : Int) < (parts.length : Int)) = True := eq_true (by omega)
                  have t4 : decide ((64 : Int) < (parts.length : Int)) = true := decide_eq_true (by omega)
                  have hx : X = 2 := by have h := hfin.out; rw [if_neg (by simp), if_pos (.inr g2)] at h; exact h
                  subst hx
                  clear hfin g1 g2
                  go_wp2_with fail
                  exact finB hR hB rfl
                · have t3 : ((64 : Int) < (parts.length : Int)) = False := eq_false (by omega)
                  have t4 : decide ((64 : Int) < (parts.length : Int)) = false := decide_eq_false (by omega)
                  have hx : X = if c4 = true then 40 else 0 := by have h := hfin.out; rw [if_neg (by simp), if_neg (by simp; omega)] at h; exact h
                  clear hfin g1 g2
                  cases c4
                  · obtain rfl : X = 0 := hx
                    go_wp2_with fail
                    exact finB hR hB rfl
                  · obtain rfl : X = 40 := hx
                    go_wp2_with fail
                    exact finB hR hB rfl
end Go.Proofs.YthiliodmbipikaaGreat
