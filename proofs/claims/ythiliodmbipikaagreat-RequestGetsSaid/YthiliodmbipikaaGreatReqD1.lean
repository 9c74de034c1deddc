import Derived.Test.YthiliodmbipikaaGreatReqS1
import Derived.Test.YthiliodmbipikaaGreatReqC
import Derived.Deep.QuietTactic
import Derived.BigQuiet
/-
  Several texts in one: ReqDa, ReqDn.
-/
set_option linter.unusedVariables false
set_option linter.unusedSimpArgs false
namespace Go.Proofs.YthiliodmbipikaaGreat
open Go.RowKit
attribute [local go_sem] ByteArray.extract_mk ByteArray.mk_append_mk

/-- A call that reads alone: the world draws, nothing else. -/
def RetQ (f : FuncId) (args : Array Value) (w : World) (v : Value) : Prop := Calls Tryz.prog f args w fun e w' => e = .returned v ∧ ∃ n, w' = w.drewN n
section
variable {f : FuncId} {args : Array Value} {w : World} {v v' : Value} {R : Ending → World → Prop}
theorem RetQ.intro (h : ∀ R : Ending → World → Prop, Hid (∀ n, R (.returned v) (w.drewN n)) → Calls Tryz.prog f args w R) : RetQ f args w v := h _ fun n => ⟨rfl, n, rfl⟩
theorem RetQ.use (h : RetQ f args w v) (k : ∀ n, R (.returned v) (w.drewN n)) : Calls Tryz.prog f args w R := h.mono fun e w' ⟨he, n, hw⟩ => by subst he; subst hw; exact k n
theorem RetQ.toB (h : RetQ f args w v) : RetB Tryz.prog f args w v := h.mono fun e w' ⟨he, n, hw⟩ => ⟨he, by subst hw; exact belowN (Below.refl _ _) n⟩
theorem RetQ.quiet {n : Nat} (h : RetQ f args (w.drewN n) v) : Calls Tryz.prog f args (w.drewN n) fun e w'' => e = .returned v ∧ ∃ m, w'' = w.drewN m :=
  h.mono fun e w' ⟨he, m, hw⟩ => ⟨he, n + m, by rw [hw]; simp [World.drewN, Nat.add_assoc]⟩
theorem Ret.quiet {n : Nat} (h : Ret Tryz.prog f args (w.drewN n) v) : Calls Tryz.prog f args (w.drewN n) fun e w'' => e = .returned v ∧ ∃ m, w'' = w.drewN m :=
  h.mono fun e w' ⟨he, hw⟩ => ⟨he, n, hw.symm⟩
theorem finQ {n : Nat} {w' : World} (h : Hid (∀ n, R (.returned v) (w.drewN n))) (hw : ∃ n, w' = w.drewN n) (e : v' = v) : R (.returned v') w' := by
  obtain ⟨n, rfl⟩ := hw
  exact e ▸ h n
theorem drewN_of {w W V : World} {n : Nat} (h : ∃ n, W = w.drewN n) (hV : V = W.drewN n) : ∃ n, V = w.drewN n := by
  obtain ⟨m, rfl⟩ := h
  exact ⟨m + n, by rw [hV]; simp [World.drewN, Nat.add_assoc]⟩
end
/-- Is a byte one of a text? -/
def hasC (l : List UInt8) (x : Int) : Bool := l.any fun c => (c.toNat : Int) == x
theorem hasC_snoc (l : List UInt8) (k : Nat) (h : k < l.length) (x : Int) : hasC (l.take (k + 1)) x = (hasC (l.take k) x || ((l[k].toNat : Int) == x)) := by
  unfold hasC; rw [List.take_succ_eq_append_getElem h, List.any_append]; simp
set_option maxRecDepth 100000 in
theorem among4 (l : List UInt8) (x : Int) (w : World) (hl : l.length ≤ 1000) : Ret Tryz.prog 52 #[.string (S l), .int .u8 x] w (.bool (hasC l x)) := by
  refine Ret.intro fun R hR => ?_
  go_enter Tryz.func52, Tryz.ntmps52
  go_wp2
  go_loop [5] (fun (v5 : Value) => ∃ k : Nat, k ≤ l.length ∧ v5 = .int .i64 (k : Int) ∧ Hid (hasC (l.take k) x = false)) (fun (v5 : Value) => (l.length - intOf v5).toNat)
  case atStart => exact ⟨0, by omega, rfl, Lib.hid (by simp [hasC])⟩
  case round =>
    obtain ⟨k, hk, rfl, hch⟩ := hrel
    by_cases hkl : k < l.length
    · have hs := Lib.hid (hasC_snoc l k hkl x)
      have hin := Lib.hid (fun (h : ((l[k].toNat : Int) == x) = true) => (show hasC l x = true by unfold hasC; rw [List.any_eq_true]; exact ⟨l[k], List.getElem_mem hkl, h⟩))
      obtain ⟨y, hy⟩ : ∃ y, ((S l)[k]'(by rw [S_size]; exact hkl)).toNat = y := ⟨_, rfl⟩
      have hy' : l[k].toNat = y := hy
      rw [hy'] at hs hin
      clear hy'
      by_cases hx : ((y : Int) == x) = true
      · have hf := Lib.hid (hin.out hx)
        clear hs hin
        go_wp2
        exact fin hR (veq_bool hf.out.symm)
      · have hx' : ((y : Int) == x) = false := by simpa using hx
        have hf := Lib.hid (hs.out.trans (by rw [hch.out, hx']))
        clear hs hin hx
        go_wp2
        go_round
        case rel => exact ⟨k + 1, by omega, by go_num, hf⟩
        case measure => simp [intOf]; omega
    · have hle : l.length ≤ k := by omega
      have hf : Hid (hasC l x = false) := Lib.hid (by have h := hch.out; rwa [List.take_of_length_le hle] at h)
      clear hch
      go_wp2
      exact fin hR (veq_bool hf.out.symm)
theorem isName_nil : isName [] = false := rfl
theorem any_snoc (l : List UInt8) (k : Nat) (h : k < l.length) (p : UInt8 → Bool) : (l.take (k + 1)).any p = ((l.take k).any p || p l[k]) := by
  rw [List.take_succ_eq_append_getElem h, List.any_append]; simp
set_option maxHeartbeats 4000000 in
set_option maxRecDepth 100000 in
theorem rname4 (l : List UInt8) (w : World) (hl : l.length ≤ maxLen) : Ret Tryz.prog 53 #[.string (S l)] w (.bool (isName l)) := by
  refine Ret.intro fun R hR => ?_
  unfold maxLen at hl
  by_cases h0 : l = []
  · subst h0
    go_enter Tryz.func53, Tryz.ntmps53
    go_wp2_with fail
    exact fin hR rfl
  · have hp : 0 < l.length := List.length_pos_iff.2 h0
    have t0 : ((l.length : Int) < 1) = False := eq_false (by omega)
    by_cases h1 : l.length ≤ 16
    · have e1 : isName l = !(l.any fun c => oddR c.toNat) := by unfold isName; rw [decide_eq_true h1]; cases l <;> simp_all
      rw [e1] at hR
      have t1 : ((16 : Int) < (l.length : Int)) = False := eq_false (by omega)
      clear e1 h0
      go_enter Tryz.func53, Tryz.ntmps53
      go_wp2_with fail
      go_loop [3, 4] (fun (v3 v4 : Value) => ∃ k : Nat, k ≤ l.length ∧ v3 = .int .i64 (k : Int) ∧ Hid ((l.take k).any (fun c => oddR c.toNat) = false)) (fun (v3 v4 : Value) => (l.length - intOf v3).toNat)
      case atStart => exact ⟨0, by omega, rfl, Lib.hid (by simp)⟩
      case round =>
        obtain ⟨k, hk, rfl, hch⟩ := hrel
        by_cases hkl : k < l.length
        · have hs := Lib.hid (any_snoc l k hkl (fun c => oddR c.toNat))
          have hin := Lib.hid (fun (h : oddR l[k].toNat = true) => (show (l.any fun c => oddR c.toNat) = true by rw [List.any_eq_true]; exact ⟨l[k], List.getElem_mem hkl, h⟩))
          obtain ⟨x, hy⟩ : ∃ y, ((S l)[k]'(by rw [S_size]; exact hkl)).toNat = y := ⟨_, rfl⟩
          have hy' : l[k].toNat = x := hy
          rw [hy'] at hs hin
          clear hy'
          have HC := Lib.hid hch.out
          clear hch
          by_cases ho : oddR x = true
          · have hf := Lib.hid (hin.out ho)
            clear hs hin
            simp only [oddR] at ho
            by_cases h1 : x < 97 <;> by_cases h2 : 122 < x <;> by_cases h3 : x < 48 <;> by_cases h4 : 57 < x <;> by_cases h5 : x = 45
            all_goals first
              | omega
              | (exfalso; simp [h1, h2, h3, h4, h5] at ho; done)
              | (have a1 : decide ((97 : Int) ≤ (x : Int)) = !decide (x < 97) := by simp [h1]; omega
                 have a2 : decide ((x : Int) ≤ 122) = !decide (122 < x) := by simp [h2]; omega
                 have a3 : decide ((48 : Int) ≤ (x : Int)) = !decide (x < 48) := by simp [h3]; omega
                 have a4 : decide ((x : Int) ≤ 57) = !decide (57 < x) := by simp [h4]; omega
                 have a5 : ((x : Int) == 45) = decide (x = 45) := by by_cases e : x = 45 <;> simp [e]; omega
                 first | rw [decide_eq_true h1] at a1 | rw [decide_eq_false h1] at a1
                 first | rw [decide_eq_true h2] at a2 | rw [decide_eq_false h2] at a2
                 first | rw [decide_eq_true h3] at a3 | rw [decide_eq_false h3] at a3
                 first | rw [decide_eq_true h4] at a4 | rw [decide_eq_false h4] at a4
                 first | rw [decide_eq_true h5] at a5 | rw [decide_eq_false h5] at a5
                 simp only [Bool.not_true, Bool.not_false] at a1 a2 a3 a4 a5
                 clear h1 h2 h3 h4 h5 ho
                 go_wp2_with fail
                 exact fin hR (veq_bool (by rw [hf.out]; rfl)))
          · have ho' : oddR x = false := by simpa using ho
            have hf := Lib.hid (hs.out.trans (by rw [HC.out, ho']))
            clear hs hin ho
            simp only [oddR] at ho'
            by_cases h1 : x < 97 <;> by_cases h2 : 122 < x <;> by_cases h3 : x < 48 <;> by_cases h4 : 57 < x <;> by_cases h5 : x = 45
            all_goals first
              | omega
              | (exfalso; simp [h1, h2, h3, h4, h5] at ho'; done)
              | (have a1 : decide ((97 : Int) ≤ (x : Int)) = !decide (x < 97) := by simp [h1]; omega
                 have a2 : decide ((x : Int) ≤ 122) = !decide (122 < x) := by simp [h2]; omega
                 have a3 : decide ((48 : Int) ≤ (x : Int)) = !decide (x < 48) := by simp [h3]; omega
                 have a4 : decide ((x : Int) ≤ 57) = !decide (57 < x) := by simp [h4]; omega
                 have a5 : ((x : Int) == 45) = decide (x = 45) := by by_cases e : x = 45 <;> simp [e]; omega
                 first | rw [decide_eq_true h1] at a1 | rw [decide_eq_false h1] at a1
                 first | rw [decide_eq_true h2] at a2 | rw [decide_eq_false h2] at a2
                 first | rw [decide_eq_true h3] at a3 | rw [decide_eq_false h3] at a3
                 first | rw [decide_eq_true h4] at a4 | rw [decide_eq_false h4] at a4
                 first | rw [decide_eq_true h5] at a5 | rw [decide_eq_false h5] at a5
                 simp only [Bool.not_true, Bool.not_false] at a1 a2 a3 a4 a5
                 clear h1 h2 h3 h4 h5 ho'
                 go_wp2_with fail
                 go_round
                 case rel => exact ⟨k + 1, by omega, by go_num, hf⟩
                 case measure => simp [intOf]; omega)
        · have hle : l.length ≤ k := by omega
          have hf : Hid ((l.any fun c => oddR c.toNat) = false) := Lib.hid (by have h := hch.out; rwa [List.take_of_length_le hle] at h)
          clear hch
          go_wp2_with fail
          exact fin hR (veq_bool (by rw [hf.out]; rfl))
    · have e1 : isName l = false := by unfold isName; rw [decide_eq_false h1]; simp
      rw [e1] at hR
      have t1 : ((16 : Int) < (l.length : Int)) = True := eq_true (by omega)
      clear e1 h0
      go_enter Tryz.func53, Tryz.ntmps53
      go_wp2_with fail
      exact fin hR rfl
theorem ltB_app (c a b : List UInt8) : ltB (c ++ a) (c ++ b) = ltB a b := by
  induction c with
  | nil => rfl
  | cons x c ih => simp only [List.cons_append, ltB, if_true]; exact ih
theorem ltB_split {a b : List UInt8} {k : Nat} (h : a.take k = b.take k) : ltB a b = ltB (a.drop k) (b.drop k) := by
  have h1 := List.take_append_drop k a
  have h2 := List.take_append_drop k b
  rw [← h] at h2
  have := ltB_app (a.take k) (a.drop k) (b.drop k)
  rwa [h1, h2] at this
theorem ltB_at {a b : List UInt8} {k : Nat} (ha : k < a.length) (hb : k < b.length) (h : a.take k = b.take k) : ¬ a[k].toNat = b[k].toNat → ltB a b = decide (a[k].toNat < b[k].toNat) := by
  intro hn
  rw [ltB_split h, List.drop_eq_getElem_cons ha, List.drop_eq_getElem_cons hb, ltB, if_neg (fun e => hn (by rw [e]))]
theorem take_eq_next {a b : List UInt8} {k : Nat} (ha : k < a.length) (hb : k < b.length) (h : a.take k = b.take k) : a[k].toNat = b[k].toNat → a.take (k + 1) = b.take (k + 1) := by
  intro he
  rw [List.take_succ_eq_append_getElem ha, List.take_succ_eq_append_getElem hb, h, UInt8.toNat_inj.1 he]
theorem ltB_end {a b : List UInt8} {k : Nat} (ha : k ≤ a.length) (hb : k ≤ b.length) (he : a.length ≤ k ∨ b.length ≤ k) (h : a.take k = b.take k) : ltB a b = decide (a.length < b.length) := by
  rw [ltB_split h]
  rcases he with he | he
  · have h1 : a.length = k := by omega
    rw [List.drop_of_length_le he]
    cases hd : b.drop k with
    | nil =>
      have := congrArg List.length hd
      simp at this
      rw [decide_eq_false (by omega)]; rfl
    | cons x l =>
      have := congrArg List.length hd
      simp at this
      rw [decide_eq_true (by omega)]; rfl
  · rw [List.drop_of_length_le he, decide_eq_false (by omega)]
    cases a.drop k <;> rfl
set_option maxHeartbeats 1000000 in
set_option maxRecDepth 100000 in
theorem rless4 (a b : List UInt8) (w : World) (ha : a.length ≤ maxLen) (hb : b.length ≤ maxLen) : RetQ 69 #[.string (S a), .string (S b)] w (.bool (ltB a b)) := by
  refine RetQ.intro fun R hR => ?_
  unfold maxLen at ha hb
  go_enter Tryz.func69, Tryz.ntmps69
  go_wp2_with fail
  go_loopw [5] (fun (v5 : Value) (wr : World) => ∃ k : Nat, k ≤ a.length ∧ k ≤ b.length ∧ v5 = .int .i64 (k : Int) ∧ Hid (a.take k = b.take k) ∧ ∃ n, wr = w.drewN n) (fun (v5 : Value) (wr : World) => (a.length - intOf v5).toNat)
  case atStart => exact ⟨0, by omega, by omega, rfl, Lib.hid rfl, ⟨0, rfl⟩⟩
  case round =>
    obtain ⟨k, hk, hk2, rfl, hch, hnx⟩ := hrel
    by_cases hka : k < a.length
    · by_cases hkb : k < b.length
      · have t1 : ((k : Int) < (a.length : Int)) = True := eq_true (by omega)
        have t2 : ((k : Int) < (b.length : Int)) = True := eq_true (by omega)
        have hlt := Lib.hid (ltB_at hka hkb hch.out)
        have hnext := Lib.hid (take_eq_next hka hkb hch.out)
        clear hch
        obtain ⟨x, hx⟩ : ∃ y, ((S a)[k]'(by rw [S_size]; exact hka)).toNat = y := ⟨_, rfl⟩
        obtain ⟨y, hy⟩ : ∃ y, ((S b)[k]'(by rw [S_size]; exact hkb)).toNat = y := ⟨_, rfl⟩
        have hx' : a[k].toNat = x := hx
        have hy' : b[k].toNat = y := hy
        rw [hx', hy'] at hlt hnext
        clear hx' hy'
        by_cases hxy : x = y
        · have q : ((x : Int) != (y : Int)) = false := by simp [hxy]
          have hn := Lib.hid (hnext.out hxy)
          clear hlt hnext hxy
          go_wp2
          go_quiet (fail)
          go_wp2
          go_roundw
          case rel => exact ⟨k + 1, by omega, by omega, by go_num, hn, drewN_of hnx rfl⟩
          case measure => simp [intOf]; omega
        · have q : ((x : Int) != (y : Int)) = true := by simpa using fun h => hxy (by omega)
          have hn := Lib.hid (hlt.out hxy)
          clear hlt hnext hxy
          go_wp2
          go_quiet (fail)
          go_wp2
          go_quiet (fail)
          go_wp2
          exact finQ (n := 0) hR (drewN_of (drewN_of hnx rfl) rfl) (veq_bool hn.out.symm)
      · have t1 : ((k : Int) < (a.length : Int)) = True := eq_true (by omega)
        have t2 : ((k : Int) < (b.length : Int)) = False := eq_false (by omega)
        have t3 : decide ((k : Int) < (b.length : Int)) = false := decide_eq_false (by omega)
        have hn := Lib.hid (ltB_end (a := a) (b := b) (k := k) hk hk2 (by omega) hch.out)
        clear hch
        go_wp2
        exact finQ (n := 0) hR hnx (veq_bool hn.out.symm)
    · have t1 : ((k : Int) < (a.length : Int)) = False := eq_false (by omega)
      have t3 : decide ((k : Int) < (a.length : Int)) = false := decide_eq_false (by omega)
      have hn := Lib.hid (ltB_end (a := a) (b := b) (k := k) hk hk2 (by omega) hch.out)
      clear hch
      go_wp2
      exact finQ (n := 0) hR hnx (veq_bool hn.out.symm)
set_option maxHeartbeats 1000000 in
set_option maxRecDepth 100000 in
theorem has4 (k : Nat) (hk : k ≤ 12) (w : World) : RetB Tryz.prog 9 #[.int .i64 (k : Nat)] w (.string (S (hasL k))) := by
  refine RetB.intro fun R hR => ?_
  have hkk : k = 0 ∨ k = 1 ∨ k = 2 ∨ k = 3 ∨ k = 4 ∨ k = 5 ∨ k = 6 ∨ k = 7 ∨ k = 8 ∨ k = 9 ∨ k = 10 ∨ k = 11 ∨ k = 12 := by omega
  clear hk
  rcases hkk with rfl | rfl | rfl | rfl | rfl | rfl | rfl | rfl | rfl | rfl | rfl | rfl | rfl
  all_goals
    go_enter Tryz.func9, Tryz.ntmps9
    go_wp2
    exact finB hR (below_all (Below.refl _ _)) rfl
set_option maxRecDepth 100000 in
theorem rnum_put (n : Nat) (w : World) (hn : n ≤ 1099511627776) : RetB Tryz.prog 28 #[.int .i64 (n : Nat)] w (.string (S (vput n))) := by
  refine RetB.intro fun R hR => ?_
  have hw : IntKind.u64.wrap ((n : Nat) : Int) = (n : Int) := by rw [IntKind.wrap_u64]; omega
  have cP := Lib.hid (fun w => rput_eq n w (by omega))
  clear hn
  go_enter Tryz.func28, Tryz.ntmps28
  go_wp2_with fail
  refine (cP.out _).use ?_
  intro w2 b2
  go_wp2_with fail
  exact finB hR b2 rfl
end Go.Proofs.YthiliodmbipikaaGreat

set_option linter.unusedVariables false
set_option linter.unusedSimpArgs false
namespace Go.Proofs.YthiliodmbipikaaGreat
open Go.RowKit
attribute [local go_sem] ByteArray.extract_mk ByteArray.mk_append_mk

theorem risingB_at : ∀ (l : List (List UInt8)) (k : Nat) (h : k + 1 < l.length), risingB l = true → ltB l[k] l[k + 1] = true
  | a :: b :: l, 0, h, hr => by simp only [risingB, Bool.and_eq_true] at hr; exact hr.1
  | a :: b :: l, k + 1, h, hr => by
    simp only [risingB, Bool.and_eq_true] at hr
    have := risingB_at (b :: l) k (by simpa using h) hr.2
    simpa using this
theorem risingB_two (a b : List UInt8) (h : ltB a b = true) : risingB [a, b] = true := by simp [risingB, h]
theorem risingB_snoc : ∀ (l : List (List UInt8)) (k : Nat) (h : k + 1 < l.length), risingB (l.take (k + 1)) = true → ltB l[k] l[k + 1] = true → risingB (l.take (k + 2)) = true
  | a :: b :: l, 0, h, hr, hl => by simpa [risingB] using hl
  | a :: b :: l, k + 1, h, hr, hl => by
    simp only [List.take_succ_cons, risingB, Bool.and_eq_true] at hr ⊢
    exact ⟨hr.1, risingB_snoc (b :: l) k (by simpa using h) (by simpa [List.take_succ_cons] using hr.2) (by simpa using hl)⟩
/-- The first k topics may be. -/
def nUp (l : List (List UInt8)) (k : Nat) : Prop := (l.take k).all isName = true ∧ risingB (l.take k) = true
theorem nUp_zero (l : List (List UInt8)) : nUp l 0 := ⟨by simp, by simp [risingB]⟩
theorem nUp_one (l : List (List UInt8)) (h : 0 < l.length) (h1 : isName l[0] = true) : nUp l 1 := by
  cases l with
  | nil => simp at h
  | cons a l => exact ⟨by simpa using h1, by simp [risingB]⟩
theorem nUp_next {l : List (List UInt8)} {k : Nat} (h : k + 1 < l.length) (hu : nUp l (k + 1)) (h1 : isName l[k + 1] = true) (h2 : ltB l[k] l[k + 1] = true) : nUp l (k + 2) :=
  ⟨by rw [List.take_succ_eq_append_getElem h, List.all_append, hu.1]; simpa using h1, risingB_snoc l k h hu.2 h2⟩
theorem names_bad1 {l : List (List UInt8)} {k : Nat} (h : k < l.length) (h1 : isName l[k] = false) : namesOk l = false := by
  have : l.all isName = false := by rw [List.all_eq_false]; exact ⟨l[k], List.getElem_mem h, by rw [h1]; simp⟩
  unfold namesOk; rw [this]; simp
theorem names_bad2 {l : List (List UInt8)} {k : Nat} (h : k + 1 < l.length) (h1 : ltB l[k] l[k + 1] = false) : namesOk l = false := by
  have : risingB l = false := by
    cases hr : risingB l with
    | false => rfl
    | true => rw [risingB_at l k h hr] at h1; simp at h1
  unfold namesOk; rw [this]; simp
set_option maxHeartbeats 4000000 in
set_option maxRecDepth 100000 in
theorem rnames4 (v : Value) (l : List (List UInt8)) (w : World) (hv : TopsIn w v l) (hb : l.length ≤ 1000000 ∧ ∀ s ∈ l, s.length ≤ maxLen) :
    RetB Tryz.prog 54 #[v] w (.bool (namesOk l)) := by
  refine RetQ.toB (RetQ.intro fun R hR => ?_)
  obtain ⟨a, cap, rfl⟩ := hv.form
  have hB := Lib.hid hb.2
  have hl := hb.1
  clear hb
  by_cases h0 : l.length = 0
  · have e1 : namesOk l = false := by rw [List.eq_nil_of_length_eq_zero h0]; rfl
    rw [e1] at hR
    have t0 : ((l.length : Int) < 1) = True := eq_true (by omega)
    clear e1 h0 hv
    go_enter Tryz.func54, Tryz.ntmps54
    go_wp2_with fail
    exact finQ (n := 0) hR ⟨0, rfl⟩ rfl
  · have t0 : ((l.length : Int) < 1) = False := eq_false (by omega)
    by_cases h1 : l.length ≤ 8
    · have t1 : ((8 : Int) < (l.length : Int)) = False := eq_false (by omega)
      obtain ⟨b, o, cap', he, hlt, hc⟩ : ∃ b o cap', Value.slice a l.length cap = .slice (some ⟨b, o, none⟩) l.length cap' ∧ b < w.heap.size ∧ ∀ i, (h : i < l.length) → w.cell? ⟨b, o + i, none⟩ = some (.string (S l[i])) := by
        rcases hv with ⟨h, _⟩ | ⟨b, o, c, h2, _, h3, h4⟩
        · exact absurd (by rw [h]; rfl) h0
        · exact ⟨b, o, c, h2, h3, h4⟩
      simp only [Value.slice.injEq, true_and] at he
      obtain ⟨rfl, rfl⟩ := he
      have HC := Lib.hid hc
      have hend := Lib.hid (fun (h : nUp l l.length) => (show namesOk l = true by
        have h2 := h.1
        have h3 := h.2
        rw [List.take_length] at h2 h3
        unfold namesOk; rw [h2, h3, decide_eq_true h1]; cases l <;> simp_all))
      clear hc hv h0
      go_enter Tryz.func54, Tryz.ntmps54
      go_wp2_with fail
      go_loopw [3] (fun (v3 : Value) (wr : World) => ∃ k : Nat, k ≤ l.length ∧ v3 = .int .i64 (k : Int) ∧ Hid (nUp l k) ∧ ∃ n, wr = w.drewN n) (fun (v3 : Value) (wr : World) => (l.length - intOf v3).toNat)
      case atStart => exact ⟨0, by omega, rfl, Lib.hid (nUp_zero l), 0, rfl⟩
      case round =>
        obtain ⟨k, hk, rfl, hu, hw⟩ := hrel
        have HW := Lib.hid hw
        have hcw : ∀ a, wr.cell? a = w.cell? a := fun a => by obtain ⟨m, h⟩ := HW.out; subst h; rfl
        have HCW := Lib.hid hcw
        clear hw hcw
        by_cases hkl : k < l.length
        · have c1 := (HCW.out _).trans (HC.out k hkl)
          have b1 := hB.out l[k] (List.getElem_mem hkl)
          have cN := Lib.hid (fun w => rname4 l[k] w b1)
          have i1 : (0 : Int) ≤ (k : Int) := by omega
          have i2 : (k : Int) < (l.length : Int) := by omega
          by_cases hk0 : k = 0
          · subst hk0
            have c1 : wr.cell? ⟨b, o, none⟩ = some (.string (S l[0])) := c1
            have i2 : (0 : Int) < (l.length : Int) := by omega
            have i4 : ((0 : Int) < (l.length : Int)) = True := eq_true i2
            have hn := Lib.hid (nUp_one l hkl)
            have hbad := Lib.hid (names_bad1 hkl)
            generalize l[0] = s at *
            cases hs : isName s
            · have hf := Lib.hid (hbad.out hs)
              rw [hs] at cN
              clear hn hbad hs
              go_wp2
              go_quiet (first | (go_at_call 53; exact Ret.quiet (cN.out _)))
              go_wp2
              exact finQ (n := 0) hR (drewN_of HW.out rfl) (veq_bool hf.out.symm)
            · have hf := Lib.hid (hn.out hs)
              rw [hs] at cN
              clear hn hbad hs
              go_wp2
              go_quiet (first | (go_at_call 53; exact Ret.quiet (cN.out _)))
              go_wp2
              go_roundw
              case rel => exact ⟨1, by omega, by go_num, hf, drewN_of HW.out rfl⟩
              case measure => simp [intOf]; omega
          · obtain ⟨j, rfl⟩ : ∃ j, k = j + 1 := ⟨k - 1, by omega⟩
            have c0 := (HCW.out _).trans (HC.out j (by omega))
            have b0 := hB.out l[j] (List.getElem_mem _)
            have cL := Lib.hid (fun w => rless4 l[j] l[j + 1] w b0 b1)
            have hn := Lib.hid (nUp_next hkl hu.out)
            have hbad1 := Lib.hid (names_bad1 hkl)
            have hbad2 := Lib.hid (names_bad2 hkl)
            have t5 : ((0 : Int) < ((j + 1 : Nat) : Int)) = True := eq_true (by omega)
            have t6 : decide ((0 : Int) < ((j + 1 : Nat) : Int)) = true := decide_eq_true (by omega)
            have t7 : IntKind.i64.wrap (((j + 1 : Nat) : Int) - 1) = (j : Int) := by rw [IntKind.wrap_i64]; omega
            have i3 : (0 : Int) ≤ (j : Int) := by omega
            have i4 : (j : Int) < (l.length : Int) := by omega
            generalize l[j + 1] = s at *
            generalize l[j] = r at *
            cases hs : isName s
            · have hf := Lib.hid (hbad1.out hs)
              rw [hs] at cN
              clear hn hbad1 hbad2 hs
              go_wp2
              go_quiet (first | (go_at_call 53; exact Ret.quiet (cN.out _)) | (go_at_call 69; exact RetQ.quiet (cL.out _)))
              go_wp2
              exact finQ (n := 0) hR (drewN_of HW.out rfl) (veq_bool hf.out.symm)
            · rw [hs] at cN
              cases hr : ltB r s
              · have hf := Lib.hid (hbad2.out hr)
                rw [hr] at cL
                clear hn hbad1 hbad2 hs hr
                go_wp2
                go_quiet (first | (go_at_call 53; exact Ret.quiet (cN.out _)) | (go_at_call 69; exact RetQ.quiet (cL.out _)))
                go_wp2
                exact finQ (n := 0) hR (drewN_of HW.out rfl) (veq_bool hf.out.symm)
              · have hf := Lib.hid (hn.out hs hr)
                rw [hr] at cL
                clear hn hbad1 hbad2 hs hr
                go_wp2
                go_quiet (first | (go_at_call 53; exact Ret.quiet (cN.out _)) | (go_at_call 69; exact RetQ.quiet (cL.out _)))
                go_wp2
                go_roundw
                case rel => exact ⟨j + 2, by omega, by go_num, hf, drewN_of HW.out rfl⟩
                case measure => simp [intOf]; omega
        · have hle : k = l.length := by omega
          have hf := Lib.hid (hend.out (hle ▸ hu.out))
          clear hu
          go_wp2
          exact finQ (n := 0) hR HW.out (veq_bool hf.out.symm)
    · have e1 : namesOk l = false := by unfold namesOk; rw [decide_eq_false h1]; simp
      rw [e1] at hR
      have t1 : ((8 : Int) < (l.length : Int)) = True := eq_true (by omega)
      clear e1 h0 hv
      go_enter Tryz.func54, Tryz.ntmps54
      go_wp2_with fail
      exact finQ (n := 0) hR ⟨0, rfl⟩ rfl
end Go.Proofs.YthiliodmbipikaaGreat
