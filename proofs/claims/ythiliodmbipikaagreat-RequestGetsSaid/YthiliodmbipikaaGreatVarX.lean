import Derived.Test.YthiliodmbipikaaGreatProg
import Derived.Test.YthiliodmbipikaaGreatBase
import Derived.Outline
import Derived.Lib.Hide
import Derived.IntWalk
import Derived.RangeFuncNested
import Derived.RangeFuncBound
import Derived.RangeFuncCalls
import Derived.RangeFuncLeaves
import Derived.RangeFuncBox
import Derived.Shelf.Abstract
import Derived.Shelf.RegionOpen
import Derived.WalkKit
import Derived.OwnWalkIn
import Derived.TacticsInMore
import Derived.LoopNIn
import Derived.LoopIn
import Derived.Maps.AppendAt
import Derived.RegionTactic
import Derived.RegionCalls
import Derived.Deep.RegionWith
import Derived.Deep.RegionHeld3
import Derived.BigRegion
/-
  Several texts in one: Var, Put, Ref1, Text1.
-/
set_option linter.unusedVariables false
set_option linter.unusedSimpArgs false
namespace Go.Proofs.YthiliodmbipikaaGreat
open Go.RowKit
attribute [local go_sem] ByteArray.extract_mk ByteArray.mk_append_mk

theorem long_any (c k : Int) (w : World) : Ret Tryz.prog 60 #[.int .u8 c, .int .i64 k] w (.bool (longB c k)) := by
  refine Ret.intro fun R hR => ?_
  go_enter Tryz.func60, Tryz.ntmps60
  go_wp2
  all_goals (refine fin hR (veq_bool ?_); unfold longB)
  all_goals (rw [Bool.eq_iff_iff]; simp only [Bool.or_eq_true, Bool.and_eq_true, decide_eq_true_eq, beq_iff_eq, Bool.false_eq_true, false_iff, true_iff]; omega)

set_option maxHeartbeats 400000 in
set_option maxRecDepth 100000 in
theorem get_any (l : List UInt8) (p : Int) (w : World) (hl : l.length ≤ maxLen) :
    Ret Tryz.prog 30 #[.string (S l), .int .i64 p] w (.tuple #[.int .u64 (vget l p).1, .int .i64 (vget l p).2.1, .int .i64 (vget l p).2.2]) := by
  refine Ret.intro fun R hR => ?_
  unfold maxLen at hl
  by_cases hr : 0 ≤ p ∧ p ≤ l.length
  · obtain ⟨h0, h1⟩ := hr
    obtain ⟨p, rfl⟩ := Int.eq_ofNat_of_zero_le h0
    have hz := GetAt.zero l p (by omega)
    have hd1 : decide ((p : Int) < 0) = false := decide_eq_false (by omega)
    have hd2 : decide (l.length < p) = false := decide_eq_false (by omega)
    go_enter Tryz.func30, Tryz.ntmps30
    go_wp2
    go_loop [7, 8] (fun n i => ∃ (k : Nat) (a : Nat), GetAt l p k a ∧ i = .int .i64 k ∧ n = .int .u64 a) (fun _ i => 10 - (intOf i).toNat)
    case atStart => exact ⟨0, 0, hz, rfl, rfl⟩
    case round =>
      obtain ⟨k, a, hg, rfl, rfl⟩ := hrel
      have hk9 : k ≤ 9 := hg.1
      have hpk : p + k ≤ l.length := hg.2.1
      by_cases hlt : p + k < l.length
      · by_cases hb : longB ((S l)[p + k]'(by rw [S_size]; exact hlt)).toNat k = true
        · have hv := Lib.hid (get_long hg hlt hb)
          go_wp2_with (go_at_call 60; refine (long_any _ _ _).use ?_)
          go_ret3
          exact fin hR (by rw [hv.out]; rfl)
        · have hb : longB ((S l)[p + k]'(by rw [S_size]; exact hlt)).toNat k = false := by simpa using hb
          by_cases hc : ((S l)[p + k]'(by rw [S_size]; exact hlt)).toNat < 128
          · have hv := Lib.hid (get_last hg hlt hb hc)
            go_wp2_with (go_at_call 60; refine (long_any _ _ _).use ?_)
            go_ret3
            refine fin hR ?_
            rw [hv.out]
            exact tup3 (veq_int (seven_last a _ k hg.2.2.1 hk9 hc hb)) (veq_int (by simp only [Int.natCast_add]; omega)) rfl
          · have hc : 128 ≤ ((S l)[p + k]'(by rw [S_size]; exact hlt)).toNat := by omega
            have hv := Lib.hid (get_more hg hlt hb hc)
            go_wp2_with (go_at_call 60; refine (long_any _ _ _).use ?_)
            go_round
            case rel =>
              exact ⟨k + 1, _, hv.out, by go_num, veq_int (seven_more a _ k hg.2.2.1 hk9 hc (UInt8.toNat_lt _) hb)⟩
            case measure => simp [intOf]; omega
      · have hv := Lib.hid (get_short hg hlt)
        go_wp2
        go_ret3
        exact fin hR (by rw [hv.out]; rfl)
  · have hv := Lib.hid (vget_out hr)
    go_enter Tryz.func30, Tryz.ntmps30
    go_wp2
    all_goals (go_ret3; exact fin hR (by rw [hv.out]; rfl))
theorem vget_eq {l : List UInt8} {p : Int} {n : Nat} {t e : Int} (h : vget l p = (n, t, e)) (w : World) (hl : l.length ≤ maxLen) :
    Ret Tryz.prog 30 #[.string (S l), .int .i64 p] w (.tuple #[.int .u64 n, .int .i64 t, .int .i64 e]) :=
  (get_any l p w hl).cast (by rw [h])

set_option maxHeartbeats 400000 in
set_option maxRecDepth 100000 in
theorem gettext_any (l : List UInt8) (p most : Int) (w : World) (hl : l.length ≤ maxLen) (hm : most ≤ 9223372036854775807) :
    Ret Tryz.prog 80 #[.string (S l), .int .i64 p, .int .i64 most] w (.tuple #[.string (S (vtext l p most).1), .int .i64 (vtext l p most).2.1, .int .i64 (vtext l p most).2.2]) := by
  refine Ret.intro fun R hR => ?_
  have hl' := hl
  unfold maxLen at hl'
  obtain ⟨b1, b2, b3, _⟩ := vget_bd l p
  unfold vtext at hR
  obtain ⟨n, t, e, hg⟩ : ∃ n t e, vget l p = (n, t, e) := ⟨_, _, _, rfl⟩
  rw [hg] at b1 b2 b3 hR
  have hc := fun w => vget_eq hg w hl
  clear hg hl
  simp only at b1 b2 b3 hR
  by_cases h0 : e = 0
  · subst h0
    obtain ⟨b4, b5, b6⟩ := b2 rfl
    clear b2 b3
    obtain ⟨t, rfl⟩ := Int.eq_ofNat_of_zero_le (show 0 ≤ t by omega)
    by_cases h1 : most < 0
    · rw [if_neg (by simp), if_pos (.inl h1)] at hR
      go_enter Tryz.func80, Tryz.ntmps80
      go_wp2_with (go_at_call 30; refine (hc _).use ?_)
      go_ret3
      exact fin hR rfl
    · have h1' : 0 ≤ most := by omega
      obtain ⟨m, rfl⟩ := Int.eq_ofNat_of_zero_le h1'
      by_cases h2 : m < n
      · rw [if_neg (by simp), if_pos (.inr (by omega))] at hR
        go_enter Tryz.func80, Tryz.ntmps80
        go_wp2_with (go_at_call 30; refine (hc _).use ?_)
        go_ret3
        exact fin hR rfl
      · by_cases h3 : l.length - t < n
        · rw [if_neg (by simp), if_neg (by omega), if_pos (by omega)] at hR
          go_enter Tryz.func80, Tryz.ntmps80
          go_wp2_with (go_at_call 30; refine (hc _).use ?_)
          go_ret3
          exact fin hR rfl
        · rw [if_neg (by simp), if_neg (by omega), if_neg (by omega)] at hR
          go_enter Tryz.func80, Tryz.ntmps80
          go_wp2_with (go_at_call 30; refine (hc _).use ?_)
          go_ret3
          exact fin hR (tup3 (veq_str (by rw [Int.toNat_natCast, Nat.add_sub_cancel_left])) rfl rfl)
  · have h0' : (e == 0) = false := by simpa using h0
    obtain ⟨rfl, rfl⟩ := b3 h0
    rw [if_pos h0] at hR
    clear b2 b3
    go_enter Tryz.func80, Tryz.ntmps80
    go_wp2_with (go_at_call 30; refine (hc _).use ?_)
    go_ret3
    exact fin hR rfl
theorem vtext_eq {l : List UInt8} {p most : Int} {x : List UInt8} {t e : Int} (h : vtext l p most = (x, t, e)) (w : World) (hl : l.length ≤ maxLen) (hm : most ≤ 9223372036854775807) :
    Ret Tryz.prog 80 #[.string (S l), .int .i64 p, .int .i64 most] w (.tuple #[.string (S x), .int .i64 t, .int .i64 e]) :=
  (gettext_any l p most w hl hm).cast (by rw [h])

end Go.Proofs.YthiliodmbipikaaGreat

set_option linter.unusedVariables false
set_option linter.unusedSimpArgs false
namespace Go.Proofs.YthiliodmbipikaaGreat
open Go.RowKit Go.Shelf
attribute [local go_sem] Oper.semAt_some

theorem sevens_any (n : Nat) (w : World) : Calls Tryz.prog 72 #[.int .u64 n] w fun e w' =>
    e = .returned (.func (.func 79) #[] #[.pointer (some ⟨w.heap.size, 0, none⟩)]) ∧ w' = w.alloc (.cells #[.int .u64 n] 64) := by
  go_enter Tryz.func72, Tryz.ntmps72
  go_wp2
  go_ret
  exact ⟨rfl, rfl⟩

section
variable {P : Program} {n : Nat}
/-- A range over a function, at the wide fence: the iterator is called with yield over the loop's new record. -/
theorem wpIn_rangeFunc_raw {g : Operand} {ps : Array Tmp} {assign body : Code} {Q : Exit → Act → World → Prop} {a : Act} {w : World} {gf : Nat} {lb : Array Value} (hg : a.eval g = .func (.func gf) #[] lb)
    (eg : ∀ args w, (callFunc gf args).run P w = .ok (.enter gf args) w)
    (h : ∀ (fn : FuncId) (lp : Loop), lp = { state := .ready, pending := none, fn, tmps := a.tmps, params := ps, assign, body, defers := w.heap.size } →
      CallsIn Fence.wide (n - 1) P gf (#[.func (.yield (w.heap.size + 1)) #[] #[]] ++ lb) ((w.alloc (.deferred (some []))).alloc (.loop lp))
        (rangePost Fence.wide n P (w.heap.size + 1) Q { a with defers := { target := .collected w.heap.size, args := #[] } :: a.defers })) :
    (Code.rangeFunc g ps assign body).wpIn Fence.wide n P Q a w := by
  refine wpIn_rangeFunc fun fn hfn => ?_
  obtain ⟨lp, hlp⟩ : ∃ lp : Loop, lp = { state := .ready, pending := none, fn, tmps := a.tmps, params := ps, assign, body, defers := w.heap.size } := ⟨_, rfl⟩
  have he : (Instr.enterLoop fn a.tmps ps assign body Fence.wide.round).run P w = .ok (w.heap.size + 1, [{ target := .collected w.heap.size, args := #[] }]) ((w.alloc (.deferred (some []))).alloc (.loop lp)) := by
    rw [hlp]; exact run_enterLoop_outer fn a.tmps ps assign body
  have hres : (resolve a.eval (rangeCall g (w.heap.size + 1)) 0).run P ((w.alloc (.deferred (some []))).alloc (.loop lp)) = .ok { target := .fn (.func gf) lb, args := #[.func (.yield (w.heap.size + 1)) #[] #[]] } ((w.alloc (.deferred (some []))).alloc (.loop lp)) := by
    simp only [resolve, hg]
    simp [go_sem]
  have hinv : (invoke (.fn (.func gf) lb) #[.func (.yield (w.heap.size + 1)) #[] #[]]).run P ((w.alloc (.deferred (some []))).alloc (.loop lp)) = .ok (.enter gf (#[.func (.yield (w.heap.size + 1)) #[] #[]] ++ lb)) ((w.alloc (.deferred (some []))).alloc (.loop lp)) := by
    simp [invoke, go_sem, eg]
  have hcall := h fn lp hlp
  exact ⟨w.heap.size + 1, [{ target := .collected w.heap.size, args := #[] }], _, _, _, gf, _, _, he, hres, fun _ _ => trivial, hinv, fun hd => (by cases hd), hcall⟩

/-- One round: yield is called, the left sides are assigned, the body is walked. -/
theorem yieldAt_raw {l : Nat} {lp : Loop} {args : Array Value} {W : World} {R : Ending → World → Prop} (hl : W.heap[l]? = some (.loop lp)) (hs : args.size = lp.params.size)
    (h : lp.assign.wpIn (Fence.wide.inRound l) n P (Exit.then (fun a₁ w₁ => ∃ w₂, (Instr.beginRound l).run P w₁ = .ok () w₂ ∧ lp.body.wpIn (Fence.wide.inRound l) n P (roundPost P l R) a₁ w₂) (fun _ _ _ => False))
      { tmps := (lp.params.zip args).foldl (fun tmps (t, a) => tmps.setIfInBounds t a) lp.tmps, defers := [] } W) : YieldAt Fence.wide n P l args W R :=
  ⟨_, _, _, _, run_yield hl hs, roundIn_of_wpIn trivial h⟩
end

/-- What the rounds of a number's sevens gather, m being what is left of it. -/
def svs (n : Nat) : List (Nat × Bool) := sevF 9 n

/-- The number in a box, for a loop's measure. -/
def boxInt (B : Nat) (w : World) : Nat := (intOf ((w.cell? ⟨B, 0, none⟩).getD undef)).toNat
theorem boxInt_eq {B : Nat} {w : World} {t : TypeId} {k : IntKind} {n : Nat} (h : Boxed w B t (.int k (n : Int))) : boxInt B w = n := by
  unfold boxInt; rw [h.cell]; simp [intOf]

set_option maxHeartbeats 1000000 in
set_option maxRecDepth 100000 in
theorem sevens1_in (l Bn : Nat) (J : List (Nat × Bool) → World → Prop)
    (hY : ∀ pre x b W m, J pre W → Boxed W Bn 64 (.int .u64 m) → pre.length < 10 → x < 256 → (b = true → x < 128) → YieldAt Fence.wide 8 Tryz.prog l #[.int .u8 (x : Nat), .bool b] W fun e W' =>
      e = .returned (.bool true) ∧ J (pre ++ [(x, b)]) W' ∧ Boxed W' Bn 64 (.int .u64 m))
    (hJ : ∀ pre W v, J pre W → J pre (W.setCell ⟨Bn, 0, none⟩ v))
    (n : Nat) (hn : n < 18446744073709551616) (W : World) (hb : Boxed W Bn 64 (.int .u64 n)) (h0 : J [] W) :
    CallsIn Fence.wide 9 Tryz.prog 79 #[.func (.yield l) #[] #[], .pointer (some ⟨Bn, 0, none⟩)] W fun e W' => (∃ v, e = .returned v) ∧ J (svs n) W' := by
  refine callsIn_of_wp Tryz.func79 rfl trivial ?_ rfl
  simp only [Tryz.ntmps79, List.size_toArray, List.length_cons, List.length_nil, Nat.reduceAdd, Nat.reduceSub, Array.replicate_succ, Array.replicate_zero, List.push_toArray, List.append_toArray, List.nil_append, List.cons_append]
  gi_wp2
  gi_loopw [3] (fun p wr => ∃ (pre : List (Nat × Bool)) (m f : Nat), Boxed wr Bn 64 (.int .u64 m) ∧ m < 2 ^ (7 * f + 1) ∧ f ≤ 9 ∧ pre.length + f = 9 ∧ pre ++ sevF f m = svs n ∧ J pre wr)
    (fun p wr => boxInt Bn wr)
  case atStart =>
    exact ⟨[], n, 9, hb, hn, by omega, rfl, rfl, h0⟩
  case round =>
    obtain ⟨pre, m, f, hbx, hm, hf, hpl, hpre, hJs⟩ := hrel
    have hm64 : m < 18446744073709551616 := by
      have h1 : 2 ^ (7 * f + 1) ≤ 2 ^ 64 := Nat.pow_le_pow_right (by omega) (by omega)
      omega
    have hc := hbx.cell
    have hfz := hbx.frozen
    by_cases hlt : m < 128
    · have hs : sevF f m = [(m, false)] := by
        cases f with
        | zero => simp [sevF, Nat.mod_eq_of_lt (show m < 256 by omega)]
        | succ f => rw [sevF, if_pos hlt, Nat.mod_eq_of_lt (show m < 256 by omega)]
      obtain ⟨fn, tmps, assign, body, hy, hR⟩ := hY pre m false wr m hJs hbx (by omega) (by omega) (by simp)
      have HP := Lib.hid hpre
      have HS := Lib.hid hs
      clear hpre hs hm hpl
      gi_wp2
      refine hR.mono ?_
      rintro e W3 ⟨rfl, hJ3, hb3⟩
      gi_wp2
      refine bodyPost_end (results_none rfl _ _ _) rfl ?_
      exact ⟨⟨_, rfl⟩, by rw [← HP.out, HS.out]; exact hJ3⟩
    · obtain ⟨f, rfl⟩ : ∃ g, f = g + 1 := ⟨f - 1, by
        cases f with
        | zero => exfalso; simp at hm; omega
        | succ f => omega⟩
      have hs : sevF (f + 1) m = (m % 128, true) :: sevF f (m / 128) := by rw [sevF, if_neg hlt]
      obtain ⟨fn, tmps, assign, body, hy, hR⟩ := hY pre (m % 128) true wr m hJs hbx (by omega) (by omega) (by omega)
      have ha := and_127 m hm64
      rw [show ((m % 128 : Nat) : Int) = (m : Int) % 128 from by omega] at hy ha
      have hge : (128 : Int) ≤ m := by omega
      have HP := Lib.hid hpre
      have HS := Lib.hid hs
      have HL := Lib.hid hpl
      have HM := Lib.hid hm
      clear hpre hs hm hpl
      gi_wp2
      refine hR.mono ?_
      rintro e W3 ⟨rfl, hJ3, hb3⟩
      have hc3 := hb3.cell
      have hf3 := hb3.frozen
      gi_wp2
      have hb4 := hb3.set (.int .u64 ((m : Int) / 128))
      have hdiv : (m : Int) / 128 = ((m / 128 : Nat) : Int) := by omega
      go_roundw
      case rel =>
        refine ⟨pre ++ [(m % 128, true)], m / 128, f, by rw [← hdiv]; exact hb4, ?_, by omega, ?_, ?_, hJ _ _ _ hJ3⟩
        · have h := HM.out
          rw [show 7 * (f + 1) + 1 = (7 * f + 1) + 7 from by omega, Nat.pow_add] at h
          omega
        · have := HL.out
          simp
          omega
        · rw [← HP.out, HS.out]; simp
      case measure =>
        rw [hdiv] at hb4
        rw [hdiv, boxInt_eq hb4, boxInt_eq hbx]
        omega
def sevV (x : Nat × Bool) : Value := .int .u8 (if x.2 then (x.1 : Int) + 128 else x.1)

/-- What holds between two rounds of Put's loop: the box of the bytes, the row they stand in, the loop's record and its block. -/
structure PutJ (h : Nat) (w0 : World) (lp : Loop) (pre : List (Nat × Bool)) (W : World) (v : Value) : Prop where
  box : Boxed W (h + 1) 86 v
  row : W.ownsRow h 5 1 v pre.length (pre.map sevV)
  num : ∃ u, Boxed W (h + 2) 64 u
  loop : W.heap[h + 4]? = some (.loop lp)
  defd : W.heap[h + 3]? = some (.deferred (some []))
  below : Below h w0 W
  size : h ≤ w0.heap.size

theorem PutJ.setNum {h : Nat} {w0 : World} {lp : Loop} {pre : List (Nat × Bool)} {W : World} {v : Value} (j : PutJ h w0 lp pre W v) (x : Value) : PutJ h w0 lp pre (W.setCell ⟨h + 2, 0, none⟩ x) v := by
  obtain ⟨u, hu⟩ := j.num
  have hg := grownBy_setCell' W (h + 2) x
  exact ⟨j.box.kept hg (by simp), j.row.kept hg (.inr (hu.not_row (by decide) j.row).symm), ⟨_, hu.set x⟩, (hg.block _ (Array.getElem?_eq_some_iff.1 j.loop).1 (by simp)).trans j.loop,
    (hg.block _ (Array.getElem?_eq_some_iff.1 j.defd).1 (by simp)).trans j.defd, j.below.setCell (p := ⟨h + 2, 0, none⟩) (by simp) _, j.size⟩

theorem PutJ.putLoop {h : Nat} {w0 : World} {lp : Loop} {pre : List (Nat × Bool)} {W : World} {v : Value} (j : PutJ h w0 lp pre W v) (lp' : Loop) : PutJ h w0 lp' pre (W.putObj (h + 4) (.loop lp')) v := by
  obtain ⟨u, hu⟩ := j.num
  have hg := grownBy_putObj' W (h + 4) (.loop lp')
  have hlt := (Array.getElem?_eq_some_iff.1 j.loop).1
  exact ⟨j.box.kept hg (by simp), ownsRow_putObj j.row _ j.loop rfl, ⟨u, hu.kept hg (by simp)⟩, World.putObj_heap_same hlt, (World.putObj_heap_other (by omega)).trans j.defd,
    j.below.grown hg (Nat.le_trans j.size j.below.size) (fun k e => by cases e; omega), j.size⟩

theorem T.info5 : (Tryz.prog.info? 5).map (fun i => (i.zero, i.size, i.bytes)) = some (some (.int .u8 0), 1, 1) := by kernel_rfl

theorem or_128 (x : Nat) (h : x < 128) : bits .or .u8 (x : Int) 128 = (x : Int) + 128 := by
  have e := u8_or_nat x 128 (by omega) (by omega)
  rw [show ((128 : Nat) : Int) = 128 from rfl] at e
  have := Nat.two_pow_add_eq_or_of_lt (i := 7) (b := x) (by omega) 1
  rw [e, Nat.or_comm, show (128 : Nat) = 2 ^ 7 * 1 from rfl, ← this]
  simp
  omega

def svsN (n : Nat) : List Int := (svs n).map fun x => if x.2 then (x.1 : Int) + 128 else x.1
theorem svs_ne (n : Nat) : (svs n).length ≠ 0 := by
  unfold svs sevF
  split <;> simp
theorem svs_bytes (n : Nat) (hn : n < 18446744073709551616) : vput n = (svs n).map (fun x => UInt8.ofNat (if x.2 then x.1 + 128 else x.1)) := (sevF_put 9 n hn).symm
theorem svsN_str (n : Nat) : strOfNums (svsN n) = S ((svs n).map (fun x => UInt8.ofNat (if x.2 then x.1 + 128 else x.1))) := by
  unfold strOfNums svsN S
  rw [List.map_map]
  congr 2
  apply List.map_congr_left
  intro x _
  simp only [Function.comp]
  by_cases h : x.2 = true
  · rw [if_pos h, if_pos h]; congr 1
  · rw [if_neg h, if_neg h]; congr 1

set_option maxHeartbeats 1000000 in
set_option maxRecDepth 100000 in
theorem put_any (n : Nat) (w : World) (hn : n < 18446744073709551616) : RetB Tryz.prog 61 #[.int .u64 n] w (.string (S (vput n))) := by
  refine (callsIn_wide (n := 10)).1 ?_
  obtain ⟨i0, hi, hz0, hz1, hz2⟩ := info_parts T.info5
  have hmk : ∀ w, (Instr.makeSlice 86 (.int .i64 0) (.int .i64 10)).run Tryz.prog w = .ok (.slice (some ⟨w.heap.size, 0, none⟩) 0 10) (w.alloc (.cells #[.int .u8 0, .int .u8 0, .int .u8 0, .int .u8 0, .int .u8 0, .int .u8 0, .int .u8 0, .int .u8 0, .int .u8 0, .int .u8 0] 5)) := fun _ => by kernel_rfl
  refine callsIn_of_wp_marks Tryz.func61 rfl trivial ?_ rfl
  simp only [Tryz.ntmps61, List.size_toArray, List.length_cons, List.length_nil, Nat.reduceAdd, Nat.reduceSub, Array.replicate_succ, Array.replicate_zero, List.push_toArray, List.append_toArray, List.nil_append, List.cons_append]
  gi_wp2_with (refine ⟨trivial, ?_⟩; gi_at_call 72; refine (callsIn_wide.2 (sevens_any _ _)).mono ?_; rintro e w' ⟨rfl, rfl⟩)
  clear hmk
  obtain ⟨W0, hW0⟩ : ∃ W0, (((w.alloc (.cells #[.int .u8 0, .int .u8 0, .int .u8 0, .int .u8 0, .int .u8 0, .int .u8 0, .int .u8 0, .int .u8 0, .int .u8 0, .int .u8 0] 5)).alloc (.cells #[.slice (some ⟨w.heap.size, 0, none⟩) 0 10] 86)).alloc (.cells #[.int .u64 n] 64)) = W0 := ⟨_, rfl⟩
  have hz : W0.heap.size = w.heap.size + 3 := by rw [← hW0]; simp
  have hbox : Boxed W0 (w.heap.size + 1) 86 (.slice (some ⟨w.heap.size, 0, none⟩) 0 10) := by
    rw [← hW0]
    have := (Boxed.new (w.alloc (.cells #[.int .u8 0, .int .u8 0, .int .u8 0, .int .u8 0, .int .u8 0, .int .u8 0, .int .u8 0, .int .u8 0, .int .u8 0, .int .u8 0] 5)) 86 (.slice (some ⟨w.heap.size, 0, none⟩) 0 10)).alloc (.cells #[.int .u64 n] 64)
    rwa [World.size_alloc] at this
  have hnum : Boxed W0 (w.heap.size + 2) 64 (.int .u64 n) := by
    rw [← hW0]
    have := Boxed.new ((w.alloc (.cells #[.int .u8 0, .int .u8 0, .int .u8 0, .int .u8 0, .int .u8 0, .int .u8 0, .int .u8 0, .int .u8 0, .int .u8 0, .int .u8 0] 5)).alloc (.cells #[.slice (some ⟨w.heap.size, 0, none⟩) 0 10] 86)) 64 (.int .u64 n)
    rwa [World.size_alloc, World.size_alloc] at this
  have hrow : W0.ownsRow w.heap.size 5 1 (.slice (some ⟨w.heap.size, 0, none⟩) 0 10) 0 [] := by
    rw [← hW0]
    exact ((World.ownsRow_made w #[.int .u8 0, .int .u8 0, .int .u8 0, .int .u8 0, .int .u8 0, .int .u8 0, .int .u8 0, .int .u8 0, .int .u8 0, .int .u8 0] 10 (Nat.le_refl _) (by decide) rfl).alloc _).alloc _
  have hbel : Below w.heap.size w W0 := by
    rw [← hW0]
    exact (((Below.refl _ w).alloc (Nat.le_refl _) _).alloc (by simp) _).alloc (by simp; omega) _
  rw [hW0]
  clear hW0
  refine wpIn_rangeFunc_raw (gf := 79) (lb := #[.pointer (some ⟨w.heap.size + 1 + 1, 0, none⟩)]) rfl (enters_of Tryz.func79 (by kernel_rfl) rfl) fun fn lp hlp => ?_
  rw [hz]
  have j0 : PutJ w.heap.size w lp [] ((W0.alloc (.deferred (some []))).alloc (.loop lp)) (.slice (some ⟨w.heap.size, 0, none⟩) 0 10) := by
    refine ⟨(hbox.alloc _).alloc _, (hrow.alloc _).alloc _, ⟨_, (hnum.alloc _).alloc _⟩, ?_, ?_, (hbel.alloc (by omega) _).alloc (by simp; omega) _, Nat.le_refl _⟩
    · have := World.alloc_heap_new (W0.alloc (.deferred (some []))) (.loop lp)
      rwa [World.size_alloc, hz] at this
    · refine (Below.heap_alloc _ _ _ (by simp; omega)).trans ?_
      have := World.alloc_heap_new W0 (.deferred (some []))
      rwa [hz] at this
  have hnum1 : Boxed ((W0.alloc (.deferred (some []))).alloc (.loop lp)) (w.heap.size + 2) 64 (.int .u64 n) := (hnum.alloc _).alloc _
  generalize (W0.alloc (.deferred (some []))).alloc (.loop lp) = W1 at *
  clear hbox hnum hrow hbel
  refine (sevens1_in (w.heap.size + 3 + 1) (w.heap.size + 2) (fun pre W => ∃ v, PutJ w.heap.size w lp pre W v) ?round (fun pre W v ⟨u, hj⟩ => ⟨u, hj.setNum v⟩) n hn W1 hnum1 ⟨_, j0⟩).mono ?fin
  case round =>
    rintro pre x b W m ⟨v, j⟩ hbm hpl hx hxb
    have hst : lp.state = .ready := by rw [hlp]
    have hpe : lp.pending = none := by rw [hlp]
    have e1 := congrArg Loop.assign hlp
    have e2 := congrArg Loop.body hlp
    have e3 := congrArg Loop.tmps hlp
    have e4 := congrArg Loop.params hlp
    dsimp only at e1 e2 e3 e4
    clear hlp
    refine yieldAt_raw j.loop (by rw [e4]; rfl) ?_
    rw [e1, e2, e3, e4]
    clear e1 e2 e3 e4
    have hbr := run_beginRound (P := Tryz.prog) j.loop hst
    have j2 := j.putLoop { lp with state := .busy }
    have hbm2 := hbm.kept (grownBy_putObj' W (w.heap.size + 4) (.loop { lp with state := .busy })) (by simp)
    obtain ⟨W2, hW2⟩ : ∃ W2, W.putObj (w.heap.size + 4) (.loop { lp with state := .busy }) = W2 := ⟨_, rfl⟩
    rw [hW2] at hbr j2 hbm2
    clear hW2 hbm j j0 hnum1
    have hsz2 : w.heap.size + 4 < W2.heap.size := (Array.getElem?_eq_some_iff.1 j2.loop).1
    have hc := j2.box.cell
    have hrow := j2.row
    have hend : ∀ v' W3, PutJ w.heap.size w { lp with state := .busy } (pre ++ [(x, b)]) W3 v' → Boxed W3 (w.heap.size + 2) 64 (.int .u64 m) →
        roundPost Tryz.prog (w.heap.size + 3 + 1) (fun e W' => e = Ending.returned (Value.bool true) ∧ (∃ v, PutJ w.heap.size w lp (pre ++ [(x, b)]) W' v) ∧ Boxed W' (w.heap.size + 2) 64 (Value.int IntKind.u64 m)) .normal { tmps := #[], defers := [] } W3 := by
      intro v' W3 j3 hb3
      have h4 := run_endRound (P := Tryz.prog) none j3.loop
      have elp : ({ ({ lp with state := .busy } : Loop) with state := if (none : Option Code).isNone then .ready else .done, pending := none } : Loop) = lp := by
        cases lp; simp at hst hpe; subst hst; subst hpe; rfl
      rw [elp] at h4
      exact ⟨_, _, h4, rfl, ⟨v', j3.putLoop lp⟩, hb3.kept (grownBy_putObj' W3 (w.heap.size + 4) (.loop lp)) (by simp)⟩
    have Hend := Lib.hid hend
    have Hbr := Lib.hid hbr
    clear hend hpe hst hbr
    gi_wp2
    refine ⟨_, Hbr.out, ?_⟩
    cases b with
    | true =>
      have hx' := hxb rfl
      have ho := or_128 x hx'
      gi_wp2_with (gi_at_builtin; refine wpListIn_append_own _ rfl _ _ 86 rfl w.heap.size 5 i0 (.int .u8 0) 1 1 Tryz.underlying86 hi hz0 hz1 hz2 rfl (by decide) _ _ _ rfl (hrow.alloc _) ⟨W2.heap.size, 0, none⟩ 1 1 [.int .u8 ((x : Int) + 128)] rfl rfl (cell_one_new _ _ _) (by simp [Value.oneCell']) (by unfold maxLen; omega) (by omega) (by simp; omega) ?_; intro v' w1 hown' hgrow _; obtain ⟨g', cap', rfl⟩ := ownsRow_succ hown'; obtain ⟨hv1, hv2, hr2, hk2, hb2⟩ := j2.box.appended (by decide) hrow (by omega) (by omega) hown' hgrow; have hc1 := hv1.cell; have hf1 := hv1.frozen)
      have hb3 := ((hbm2.alloc (.cells #[.int .u8 ((x : Int) + 128)] 5)).kept hgrow (hbm2.not_row (by decide) hrow)).kept (grownBy_setCell' w1 (w.heap.size + 1) (.slice (some ⟨g', 0, none⟩) (pre.length + 1) cap')) (by simp)
      exact Hend.out _ _ ⟨hv2, by simpa [sevV] using hr2, ⟨_, hb3⟩, hk2.same _ _ j2.loop rfl, hk2.same _ _ j2.defd rfl, j2.below.trans hb2, j2.size⟩ hb3
    | false =>
      gi_wp2_with (gi_at_builtin; refine wpListIn_append_own _ rfl _ _ 86 rfl w.heap.size 5 i0 (.int .u8 0) 1 1 Tryz.underlying86 hi hz0 hz1 hz2 rfl (by decide) _ _ _ rfl (hrow.alloc _) ⟨W2.heap.size, 0, none⟩ 1 1 [.int .u8 (x : Int)] rfl rfl (cell_one_new _ _ _) (by simp [Value.oneCell']) (by unfold maxLen; omega) (by omega) (by simp; omega) ?_; intro v' w1 hown' hgrow _; obtain ⟨g', cap', rfl⟩ := ownsRow_succ hown'; obtain ⟨hv1, hv2, hr2, hk2, hb2⟩ := j2.box.appended (by decide) hrow (by omega) (by omega) hown' hgrow; have hc1 := hv1.cell; have hf1 := hv1.frozen)
      have hb3 := ((hbm2.alloc (.cells #[.int .u8 (x : Int)] 5)).kept hgrow (hbm2.not_row (by decide) hrow)).kept (grownBy_setCell' w1 (w.heap.size + 1) (.slice (some ⟨g', 0, none⟩) (pre.length + 1) cap')) (by simp)
      exact Hend.out _ _ ⟨hv2, by simpa [sevV] using hr2, ⟨_, hb3⟩, hk2.same _ _ j2.loop rfl, hk2.same _ _ j2.defd rfl, j2.below.trans hb2, j2.size⟩ hb3
  case fin =>
    rintro e W2 ⟨⟨v, rfl⟩, u, j⟩
    have hst : lp.state ≠ .busy := by rw [hlp]; simp
    have hpe : lp.pending = none := by rw [hlp]
    clear hlp
    have hel := run_endLoop (P := Tryz.prog) j.loop hst
    rw [hpe] at hel
    have j2 := j.putLoop { lp with state := .exhausted, pending := none }
    refine ⟨none, _, hel, ?_⟩
    obtain ⟨W3, hW3⟩ : ∃ W3, W2.putObj (w.heap.size + 4) (.loop { lp with state := .exhausted, pending := none }) = W3 := ⟨_, rfl⟩
    rw [hW3] at j2
    rw [hW3]
    clear hel hW3 j j0 hnum1
    have hc := j2.box.cell
    have hv := svs_bytes n hn
    obtain ⟨g, cap, rfl⟩ : ∃ g cap, u = .slice (some ⟨g, 0, none⟩) (svs n).length cap := by
      rcases j2.row.2 with ⟨_, h0⟩ | ⟨g, cap, _, rfl, _⟩
      · exact absurd h0 (svs_ne n)
      · exact ⟨g, cap, rfl⟩
    have hcv := run_convert_bytes_arg (P := Tryz.prog) W3 86 5 Tryz.underlying86 Tryz.underlying5 g 0 (svs n).length cap (svsN n) (by simp [svsN]) (by
      intro i hi
      have := j2.row.cellAt i (by omega)
      rw [Nat.zero_add, this]
      simp [svsN, sevV, List.getD_eq_getElem?_getD, hi]) 9 Tryz.underlying9
    have hcv2 : strOfNums (svsN n) = S (vput n) := by rw [hv]; exact svsN_str n
    rw [hcv2] at hcv
    clear hv hcv2
    gi_wp2
    refine ⟨by simp, .inl ⟨_, _, rfl, run_takeDeferred j2.defd, ?_⟩⟩
    exact ⟨_, results_tmp rfl _ _ _, rfl, j2.below.grown (grownBy_putObj' W3 (w.heap.size + 3) (.deferred none)) (by have := j2.below.size; omega) (fun k e => by cases e; omega)⟩
end Go.Proofs.YthiliodmbipikaaGreat

set_option linter.unusedVariables false
set_option linter.unusedSimpArgs false
namespace Go.Proofs.YthiliodmbipikaaGreat
open Go.RowKit

theorem vputF_le : ∀ f n, (vputF f n).length ≤ f + 1
  | 0, n => by simp [vputF]
  | f + 1, n => by
    unfold vputF
    split
    · simp
    · have := vputF_le f (n / 128); simp; omega

set_option maxRecDepth 100000 in
theorem rput_small (n : Nat) (w : World) (h : n < 128) : RetB Tryz.prog 57 #[.int .u64 n] w (.string (S [UInt8.ofNat n])) := by
  refine RetB.intro fun R hR => ?_
  have hlt : (n : Int) < 128 := by omega
  have hcA := fun (w : World) => conv1 (P := Tryz.prog) Tryz.underlying86 Tryz.underlying5 Tryz.underlying9 (w.alloc (.cells #[.int .u8 (n : Int)] 5)) w.heap.size 1 n (by simp)
  rw [strOfNums_one] at hcA
  have q1 : IntKind.u8.wrap (n : Int) = n := by rw [IntKind.wrap_u8']; omega
  go_enter Tryz.func57, Tryz.ntmps57
  go_wp2
  exact finB hR ((Below.refl _ w).alloc (Nat.le_refl _) _) rfl

theorem below_any {w w1 : World} {B : Nat} (hB : B ≤ w.heap.size) (h0 : Below B w w1) {W : World} (h : Below w1.heap.size w1 W) : Below B w W := h0.trans (h.mono (Nat.le_trans hB h0.size))

set_option maxHeartbeats 1000000 in
set_option maxRecDepth 100000 in
theorem rput_any : ∀ (f n : Nat) (w : World), n < 2 ^ (7 * f + 1) → f ≤ 9 → RetB Tryz.prog 57 #[.int .u64 n] w (.string (S (vputF f n)))
  | 0, n, w, hn, hf => by
    have hn : n < 2 := hn
    exact rput_small n w (by omega)
  | f + 1, n, w, hn, hf => by
    by_cases hlt : n < 128
    · rw [show vputF (f + 1) n = [UInt8.ofNat n] from by rw [vputF, if_pos hlt]]
      exact rput_small n w hlt
    · refine RetB.intro fun R hR => ?_
      rw [show vputF (f + 1) n = UInt8.ofNat (n % 128 + 128) :: vputF f (n / 128) from by rw [vputF, if_neg hlt]] at hR
      have ih := fun w => rput_any f (n / 128) w (by rw [show 7 * (f + 1) + 1 = (7 * f + 1) + 7 from by omega, Nat.pow_add] at hn; omega) (by omega)
      have hge : ¬ (n : Int) < 128 := by omega
      have hn64 : n < 18446744073709551616 := by
        have h1 : 2 ^ (7 * (f + 1) + 1) ≤ 2 ^ 64 := Nat.pow_le_pow_right (by omega) (by omega)
        omega
      obtain ⟨y, hy⟩ : ∃ y : Nat, n % 128 + 128 = y := ⟨_, rfl⟩
      obtain ⟨z, hz⟩ : ∃ z : Nat, n / 128 = z := ⟨_, rfl⟩
      rw [hz] at ih hR
      rw [hy] at hR
      have q1 : IntKind.u64.wrap ((n : Int) / 128) = (z : Int) := by rw [IntKind.wrap_u64]; omega
      have q2 : IntKind.u8.wrap (IntKind.u64.wrap ((n : Int).tmod 128 + 128)) = (y : Int) := by
        rw [IntKind.wrap_u64, IntKind.wrap_u8', Int.tmod_eq_emod_of_nonneg (by omega)]; omega
      have IH := Lib.hid ih
      have hf8 : f ≤ 9 := by omega
      clear ih hn hf hy hz hn64 hlt
      have hcA := fun (w : World) => conv1 (P := Tryz.prog) Tryz.underlying86 Tryz.underlying5 Tryz.underlying9 (w.alloc (.cells #[.int .u8 (y : Int)] 5)) w.heap.size 1 y (by simp)
      have hcB := fun (w : World) => conv1 (P := Tryz.prog) Tryz.underlying86 Tryz.underlying5 Tryz.underlying9 (w.alloc (.cells #[.int .u8 (y : Int)] 5)).drew w.heap.size 1 y (by simp)
      rw [strOfNums_one] at hcA hcB
      have hlen := vputF_le f z
      have hf9 : f ≤ 9 := hf8
      have hadd : ¬ (9223372036854775807 < 1 + (vputF f z).length) := by omega
      go_enter Tryz.func57, Tryz.ntmps57
      go_wp2
      go_region_with (first | (go_at_call 57; refine (IH.out _).use ?_; intro w1 hb1; have hc1 := hb1.cell (p := ⟨w.heap.size, 0, none⟩); have hcC := conv1 (P := Tryz.prog) Tryz.underlying86 Tryz.underlying5 Tryz.underlying9 w1 w.heap.size 1 y; rw [strOfNums_one] at hcC))
      all_goals go_wp2
      · go_ret
        exact finB hR (below_any (Nat.le_refl _) ((Below.refl _ w).alloc (Nat.le_refl _) _).drew hb1) (veq_str rfl)
      · go_ret
        exact finB hR (below_any (Nat.le_refl _) ((Below.refl _ w).alloc (Nat.le_refl _) _).drew hb1) (veq_str rfl)
      · go_ret
        exact finB hR ((below_any (Nat.le_refl _) (Below.refl _ w).drew hb1).alloc hb1.size _) (veq_str rfl)

/-- The reference's Put: a number's bytes. -/
theorem rput_eq (n : Nat) (w : World) (hn : n < 18446744073709551616) : RetB Tryz.prog 57 #[.int .u64 n] w (.string (S (vput n))) := rput_any 9 n w hn (Nat.le_refl _)
set_option maxHeartbeats 1000000 in
set_option maxRecDepth 100000 in
theorem rget_any (l : List UInt8) (p : Int) (w : World) (hl : l.length ≤ maxLen) :
    Ret Tryz.prog 24 #[.string (S l), .int .i64 p] w (.tuple #[.int .u64 (vget l p).1, .int .i64 (vget l p).2.1, .int .i64 (vget l p).2.2]) := by
  refine Ret.intro fun R hR => ?_
  unfold maxLen at hl
  by_cases hr : 0 ≤ p ∧ p ≤ l.length
  · obtain ⟨h0, h1⟩ := hr
    obtain ⟨p, rfl⟩ := Int.eq_ofNat_of_zero_le h0
    have hz := GetAt.zero l p (by omega)
    have hd1 : decide ((p : Int) < 0) = false := decide_eq_false (by omega)
    have hd2 : decide (l.length < p) = false := decide_eq_false (by omega)
    go_enter Tryz.func24, Tryz.ntmps24
    go_wp2
    go_loop [7, 8, 9] (fun n q i => ∃ (k : Nat) (a q' : Nat), GetAt l p k a ∧ Hid (q' = 2 ^ (7 * k)) ∧ i = .int .i64 k ∧ n = .int .u64 a ∧ q = .int .u64 q') (fun _ _ i => 10 - (intOf i).toNat)
    case atStart => exact ⟨0, 0, 1, hz, rfl, rfl, rfl, rfl⟩
    case round =>
      obtain ⟨k, a, q, hg, HQ, rfl, rfl, rfl⟩ := hrel
      have hk9 : k ≤ 9 := hg.1
      have hpk : p + k ≤ l.length := hg.2.1
      by_cases hlt : p + k < l.length
      · obtain ⟨c, hc⟩ : ∃ c, ((S l)[p + k]'(by rw [S_size]; exact hlt)).toNat = c := ⟨_, rfl⟩
        have hc' : (l[p + k]'hlt).toNat = c := hc
        have hc256 : c < 256 := by rw [← hc]; exact UInt8.toNat_lt _
        have q1 : IntKind.u64.wrap (c : Int) = c := by rw [IntKind.wrap_u64]; omega
        by_cases hb : longB c k = true
        · have hv := Lib.hid (get_long hg hlt (by rw [hc']; exact hb))
          by_cases h9 : k = 9 ∧ 1 < c
          · obtain ⟨rfl, h1c⟩ := h9
            clear hc'
            go_wp2
            go_ret3
            exact fin hR (by rw [hv.out]; rfl)
          · have h0c : c = 0 ∧ 0 < k := by
              simp [longB] at hb; omega
            obtain ⟨rfl, h0k⟩ := h0c
            clear hc' hb
            go_wp2
            all_goals (go_ret3; exact fin hR (by rw [hv.out]; rfl))
        · have hb : longB c k = false := by simpa using hb
          have hA : ¬ (k = 9 ∧ 1 < c) := by
            rintro ⟨rfl, h⟩; simp [longB] at hb; omega
          have hB : ¬ (c = 0 ∧ 0 < k) := by
            rintro ⟨rfl, h⟩; simp [longB] at hb; omega
          have hstep := Lib.hid (rseven a c k q HQ.out hg.2.2.1 hc256 hk9 (longB_nine hb))
          have hst2 := hstep.out
          rw [Int.tmod_eq_emod_of_nonneg (by omega)] at hst2
          have hstep2 := Lib.hid hst2
          clear hst2
          by_cases hlo : c < 128
          · have hv := Lib.hid (get_last hg hlt (by rw [hc']; exact hb) (by rw [hc']; exact hlo))
            rw [hc'] at hv
            have HB := Lib.hid hb
            clear hc' hb
            by_cases hk : k = 9
            · subst hk
              obtain rfl : c = 1 := by omega
              clear hA hB
              go_wp2
              all_goals (go_ret3; refine fin hR ?_; rw [hv.out]; exact tup3 (veq_int (by have := hstep.out; simpa using this)) (veq_int (by simp only [Int.natCast_add]; omega)) rfl)
            · by_cases h0 : c = 0
              · have hk0 : (k : Int) ≤ 0 := by omega
                subst h0
                clear hA hB
                go_wp2
                all_goals (go_ret3; refine fin hR ?_; rw [hv.out]; exact tup3 (veq_int (by have := hstep.out; simpa [IntKind.wrap_u64] using this)) (veq_int (by simp only [Int.natCast_add]; omega)) rfl)
              · clear hA hB
                go_wp2
                all_goals (go_ret3; refine fin hR ?_; rw [hv.out]; exact tup3 (veq_int (by first | rw [hstep.out, Nat.mod_eq_of_lt hlo] | rw [hstep2.out, Nat.mod_eq_of_lt hlo])) (veq_int (by simp only [Int.natCast_add]; omega)) rfl)
          · have hk : k ≠ 9 := fun h => hA ⟨h, by omega⟩
            have hge : 128 ≤ c := by omega
            have hv := Lib.hid (get_more hg hlt (by rw [hc']; exact hb) (by rw [hc']; exact hge))
            rw [hc'] at hv
            have hpow := Lib.hid (rpow k (by omega))
            clear hc' hb hA hB hlo
            go_wp2
            go_round
            case rel => exact ⟨k + 1, _, _, hv.out, rfl, by go_num, veq_int (by first | rw [hstep.out, show c % 128 = c - 128 by omega] | rw [hstep2.out, show c % 128 = c - 128 by omega]), veq_int (by rw [HQ.out]; exact hpow.out)⟩
            case measure => simp [intOf]; omega
      · have hv := Lib.hid (get_short hg hlt)
        go_wp2
        go_ret3
        exact fin hR (by rw [hv.out]; rfl)
  · have hv := Lib.hid (vget_out hr)
    go_enter Tryz.func24, Tryz.ntmps24
    go_wp2
    all_goals (go_ret3; exact fin hR (by rw [hv.out]; rfl))
end Go.Proofs.YthiliodmbipikaaGreat

set_option linter.unusedVariables false
set_option linter.unusedSimpArgs false
namespace Go.Proofs.YthiliodmbipikaaGreat
open Go.RowKit
attribute [local go_sem] ByteArray.extract_mk ByteArray.mk_append_mk

theorem rvget_eq {l : List UInt8} {p : Int} {n : Nat} {t e : Int} (h : vget l p = (n, t, e)) (w : World) (hl : l.length ≤ maxLen) :
    Ret Tryz.prog 24 #[.string (S l), .int .i64 p] w (.tuple #[.int .u64 n, .int .i64 t, .int .i64 e]) :=
  (rget_any l p w hl).cast (by rw [h])

set_option maxHeartbeats 400000 in
set_option maxRecDepth 100000 in
theorem rgettext_any (l : List UInt8) (p most : Int) (w : World) (hl : l.length ≤ maxLen) (hm : most ≤ 9223372036854775807) :
    Ret Tryz.prog 49 #[.string (S l), .int .i64 p, .int .i64 most] w (.tuple #[.string (S (vtext l p most).1), .int .i64 (vtext l p most).2.1, .int .i64 (vtext l p most).2.2]) := by
  refine Ret.intro fun R hR => ?_
  have hl' := hl
  unfold maxLen at hl'
  obtain ⟨b1, b2, b3, _⟩ := vget_bd l p
  unfold vtext at hR
  obtain ⟨n, t, e, hg⟩ : ∃ n t e, vget l p = (n, t, e) := ⟨_, _, _, rfl⟩
  rw [hg] at b1 b2 b3 hR
  have hc := fun w => rvget_eq hg w hl
  clear hg hl
  simp only at b1 b2 b3 hR
  by_cases h0 : e = 0
  · subst h0
    obtain ⟨b4, b5, b6⟩ := b2 rfl
    clear b2 b3
    obtain ⟨t, rfl⟩ := Int.eq_ofNat_of_zero_le (show 0 ≤ t by omega)
    by_cases h1 : most < 0
    · rw [if_neg (by simp), if_pos (.inl h1)] at hR
      go_enter Tryz.func49, Tryz.ntmps49
      go_wp2_with (go_at_call 24; refine (hc _).use ?_)
      go_ret3
      exact fin hR rfl
    · have h1' : 0 ≤ most := by omega
      obtain ⟨m, rfl⟩ := Int.eq_ofNat_of_zero_le h1'
      by_cases h2 : m < n
      · rw [if_neg (by simp), if_pos (.inr (by omega))] at hR
        go_enter Tryz.func49, Tryz.ntmps49
        go_wp2_with (go_at_call 24; refine (hc _).use ?_)
        go_ret3
        exact fin hR rfl
      · by_cases h3 : l.length - t < n
        · rw [if_neg (by simp), if_neg (by omega), if_pos (by omega)] at hR
          go_enter Tryz.func49, Tryz.ntmps49
          go_wp2_with (go_at_call 24; refine (hc _).use ?_)
          go_ret3
          exact fin hR rfl
        · rw [if_neg (by simp), if_neg (by omega), if_neg (by omega)] at hR
          go_enter Tryz.func49, Tryz.ntmps49
          go_wp2_with (go_at_call 24; refine (hc _).use ?_)
          go_ret3
          exact fin hR (tup3 (veq_str (by rw [Int.toNat_natCast, Nat.add_sub_cancel_left])) rfl rfl)
  · have h0' : (e == 0) = false := by simpa using h0
    obtain ⟨rfl, rfl⟩ := b3 h0
    rw [if_pos h0] at hR
    clear b2 b3
    go_enter Tryz.func49, Tryz.ntmps49
    go_wp2_with (go_at_call 24; refine (hc _).use ?_)
    go_ret3
    exact fin hR rfl

theorem rvtext_eq {l : List UInt8} {p most : Int} {x : List UInt8} {t e : Int} (h : vtext l p most = (x, t, e)) (w : World) (hl : l.length ≤ maxLen) (hm : most ≤ 9223372036854775807) :
    Ret Tryz.prog 49 #[.string (S l), .int .i64 p, .int .i64 most] w (.tuple #[.string (S x), .int .i64 t, .int .i64 e]) :=
  (rgettext_any l p most w hl hm).cast (by rw [h])

theorem vput_le (n : Nat) : (vput n).length ≤ 10 := vputF_le 9 n

set_option maxRecDepth 100000 in
theorem puttext_any (l : List UInt8) (w : World) (hl : l.length ≤ 9000000000000000000) : RetB Tryz.prog 74 #[.string (S l)] w (.string (S (vtxt l))) := by
  refine RetB.intro fun R hR => ?_
  have hp := fun w => put_any l.length w (by omega)
  have q1 : IntKind.u64.wrap (l.length : Int) = l.length := by rw [IntKind.wrap_u64]; omega
  have hle := vput_le l.length
  unfold vtxt at hR
  generalize vput l.length = x at *
  go_enter Tryz.func74, Tryz.ntmps74
  go_wp2_with (go_at_call 61; refine (hp _).use ?_; intro w1 hb1)
  exact finB hR hb1 rfl

set_option maxRecDepth 100000 in
theorem rtext_any (l : List UInt8) (w : World) (hl : l.length ≤ 9000000000000000000) : RetB Tryz.prog 58 #[.string (S l)] w (.string (S (vtxt l))) := by
  refine RetB.intro fun R hR => ?_
  have hp := fun w => rput_eq l.length w (by omega)
  have q1 : IntKind.u64.wrap (l.length : Int) = l.length := by rw [IntKind.wrap_u64]; omega
  have hle := vput_le l.length
  unfold vtxt at hR
  generalize vput l.length = x at *
  go_enter Tryz.func58, Tryz.ntmps58
  go_wp2_with (go_at_call 57; refine (hp _).use ?_; intro w1 hb1)
  exact finB hR hb1 rfl
end Go.Proofs.YthiliodmbipikaaGreat
