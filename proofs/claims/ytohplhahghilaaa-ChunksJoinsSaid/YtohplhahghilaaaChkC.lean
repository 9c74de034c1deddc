import Derived.Test.YtohplhahghilaaaVarX
import Derived.Test.YtohplhahghilaaaChkP
import Derived.Test.YtohplhahghilaaaCrcX
import Derived.Laws.IdiomStrings
import Derived.Maps.OwnIn
/-
  Layer 7: a text's digest, whose loop ranges over slices.Backward: the contract.
-/
set_option linter.unusedVariables false
set_option linter.unusedSimpArgs false
namespace Go.Proofs.Ytohplhahghilaaa
open Go.RowKit Go.Shelf
attribute [local go_sem] Oper.semAt_some

set_option maxHeartbeats 1000000 in
theorem backward7 (a : Option Addr) (n c : Nat) (w : World) : Calls Try.prog 49 #[.slice a n c] w fun e w' =>
    e = .returned (.func (.func 74) #[] #[.pointer (some ⟨w.heap.size, 0, none⟩)]) ∧ w' = w.alloc (.cells #[.slice a n c] 75) := by
  go_enter Try.func49, Try.ntmps49
  go_wp2
  go_ret
  exact ⟨rfl, rfl⟩

theorem drop_rev (s : List UInt8) {j : Nat} (h : j < s.length) : (s.drop (j + 1)).reverse ++ [s[j]] = (s.drop j).reverse := by
  rw [List.drop_eq_getElem_cons h, List.reverse_cons]

set_option maxHeartbeats 1000000 in
set_option maxRecDepth 100000 in
theorem back1_in (l Bn g cap : Nat) (s : List UInt8) (hs : s.length ≤ maxLen) (J : List UInt8 → World → Prop)
    (hY : ∀ pre x (i : Nat) W, J pre W → pre.length < s.length → YieldAt Fence.wide 8 Try.prog l #[.int .i64 (i : Int), .int .u8 (UInt8.toNat x : Nat)] W fun e W' => e = .returned (.bool true) ∧ J (pre ++ [x]) W')
    (hJ : ∀ pre W, J pre W → W.cell? ⟨Bn, 0, none⟩ = some (.slice (some ⟨g, 0, none⟩) s.length cap) ∧ ∀ i, (h : i < s.length) → W.cell? ⟨g, i, none⟩ = some (.int .u8 (s[i].toNat : Nat)))
    (W : World) (h0 : J [] W) :
    CallsIn Fence.wide 9 Try.prog 74 #[.func (.yield l) #[] #[], .pointer (some ⟨Bn, 0, none⟩)] W fun e W' => (∃ v, e = .returned v) ∧ J s.reverse W' := by
  refine callsIn_of_wp Try.func74 rfl trivial ?_ rfl
  simp only [Try.ntmps74, List.size_toArray, List.length_cons, List.length_nil, Nat.reduceAdd, Nat.reduceSub, Array.replicate_succ, Array.replicate_zero, List.push_toArray, List.append_toArray, List.nil_append, List.cons_append]
  unfold maxLen at hs
  have hc0 := (hJ _ _ h0).1
  have e1 : IntKind.i64.wrap ((s.length : Int) - 1) = (s.length : Int) - 1 := by rw [IntKind.wrap_i64]; omega
  gi_wp2
  gi_loopw [3] (fun p wr => ∃ (k : Nat), k ≤ s.length ∧ p = .int .i64 ((k : Int) - 1) ∧ J (s.drop k).reverse wr) (fun p wr => (intOf p + 1).toNat)
  case atStart => exact ⟨s.length, Nat.le_refl _, rfl, by simpa using h0⟩
  case round =>
    obtain ⟨k, hk, rfl, hJs⟩ := hrel
    have hc := (hJ _ _ hJs).1
    cases k with
    | zero =>
      gi_wp2
      refine bodyPost_end (results_none rfl _ _ _) rfl ?_
      exact ⟨⟨_, rfl⟩, by simpa using hJs⟩
    | succ j =>
      have hlt : j < s.length := by omega
      have hcj := (hJ _ _ hJs).2 j hlt
      have ej : (((j + 1 : Nat) : Int) - 1) = (j : Int) := by omega
      obtain ⟨fn, tmps, assign, body, hy, hR⟩ := hY (s.drop (j + 1)).reverse s[j] j wr hJs (by simp; omega)
      have e2 : IntKind.i64.wrap ((j : Int) - 1) = (j : Int) - 1 := by rw [IntKind.wrap_i64]; omega
      rw [ej]
      have hge : (0 : Int) ≤ (j : Int) := by omega
      have hdr := Lib.hid (drop_rev s hlt)
      gi_wp2
      refine hR.mono ?_
      rintro e W3 ⟨rfl, hJ3⟩
      gi_wp2
      exact ⟨⟨j, by omega, rfl, by rw [← hdr.out]; exact hJ3⟩, by simp [intOf]⟩

/-- What holds between two rounds of the digest's loop: the box of the bytes, the row they stand in, the text's own row, the loop's record and its block. -/
structure DigJ (h : Nat) (w0 : World) (lp : Loop) (s : List UInt8) (cap : Nat) (C : Array Value) (fr : Nat × Nat) (pre : List UInt8) (W : World) (v : Value) : Prop where
  box : Boxed W (h + 1) 75 v
  row : W.ownsRow h 5 1 v pre.length (pre.map fun x => Value.int .u8 (x.toNat : Nat))
  src : W.heap[h + 2]? = some (.cells C 5 fr)
  sbox : Boxed W (h + 3) 75 (.slice (some ⟨h + 2, 0, none⟩) s.length cap)
  apart : v.ownBlock ≠ some (h + 2)
  loop : W.heap[h + 5]? = some (.loop lp)
  defd : W.heap[h + 4]? = some (.deferred (some []))
  below : Below h w0 W
  size : h ≤ w0.heap.size
theorem DigJ.putLoop {h : Nat} {w0 : World} {lp : Loop} {s : List UInt8} {cap : Nat} {C : Array Value} {fr : Nat × Nat} {pre : List UInt8} {W : World} {v : Value} (j : DigJ h w0 lp s cap C fr pre W v) (lp' : Loop) : DigJ h w0 lp' s cap C fr pre (W.putObj (h + 5) (.loop lp')) v := by
  have hg := grownBy_putObj' W (h + 5) (.loop lp')
  have hlt := (Array.getElem?_eq_some_iff.1 j.loop).1
  exact ⟨j.box.kept hg (by simp), ownsRow_putObj j.row _ j.loop rfl, (World.putObj_heap_other (by omega)).trans j.src, j.sbox.kept hg (by simp), j.apart, World.putObj_heap_same hlt, (World.putObj_heap_other (by omega)).trans j.defd,
    j.below.grown hg (Nat.le_trans j.size j.below.size) (fun k e => by cases e; omega), j.size⟩

theorem shl32 (a : Nat) (ha : a < 4294967296) : IntKind.u64.wrap ((a : Int) * 4294967296) = (a : Int) * 4294967296 := by rw [IntKind.wrap_u64]; omega
theorem or32 (a b : Nat) (ha : a < 4294967296) (hb : b < 4294967296) : bits .or .u64 ((a : Int) * 4294967296) (b : Int) = ((a * 4294967296 + b : Nat) : Int) := by
  have e := u64_or_nat (a * 4294967296) b (by omega) (by omega)
  rw [show ((a * 4294967296 : Nat) : Int) = (a : Int) * 4294967296 by omega] at e
  have := Nat.two_pow_add_eq_or_of_lt (i := 32) (b := b) (by omega) a
  rw [e, show a * 4294967296 = 2 ^ 32 * a by omega, ← this]

theorem bytesRow_get (s : List UInt8) (cap i : Nat) (h : i < s.length) : (bytesRow (S s) cap)[i]? = some (.int .u8 (s[i].toNat : Nat)) := by
  unfold bytesRow
  rw [Array.getElem?_append_left (by simpa using h)]
  simp [h]
theorem nums_rev (s : List UInt8) : strOfNums (s.reverse.map fun x => (x.toNat : Int)) = S s.reverse := S_ofNums s.reverse
set_option maxHeartbeats 4000000 in
set_option maxRecDepth 100000 in
theorem digest7 (s : List UInt8) (w : World) (hs : s.length ≤ 1000000000) : RetB Try.prog 16 #[.string (S s)] w (.int .u64 (digest s : Nat)) := by
  refine (callsIn_wide (n := 10)).1 ?_
  obtain ⟨i0, hi, hz0, hz1, hz2⟩ := info_parts T.info5
  have hmk := run_make (P := Try.prog) w 75 5 i0 (.int .u8 0) Try.underlying75 hi hz0 .i64 .i64 0 (s.length : Int) (Int.le_refl _) (by omega) (by rw [hz2]; omega) (by omega)
  rw [hz1, Int.toNat_natCast, Nat.mul_one] at hmk
  obtain ⟨A, hA⟩ : ∃ A, madeCells (Value.int .u8 0).cells s.length = A := ⟨_, rfl⟩
  have hAs : A.size = s.length * 1 := by rw [← hA, Nat.mul_one]; exact size_madeCells _ _
  rw [hA] at hmk
  have hcv := run_bytes_of_string (P := Try.prog) ((w.alloc (.cells A 5)).alloc (.cells #[.slice (some ⟨w.heap.size, 0, none⟩) 0 s.length] 75)) 9 75 5 (S s) Try.underlying9 Try.underlying75 Try.underlying5
  simp only [S_size] at hcv
  generalize grownCap ((w.alloc (.cells A 5)).alloc (.cells #[.slice (some ⟨w.heap.size, 0, none⟩) 0 s.length] 75)) s.length 0 5 = cap at hcv
  have hC := fun i h => bytesRow_get s cap i h
  generalize bytesRow (S s) cap = C at hcv hC
  generalize (C.size, C.size + 1) = fr at hcv
  clear hA
  refine callsIn_of_wp_marks Try.func16 rfl trivial ?_ rfl
  simp only [Try.ntmps16, List.size_toArray, List.length_cons, List.length_nil, Nat.reduceAdd, Nat.reduceSub, Array.replicate_succ, Array.replicate_zero, List.push_toArray, List.append_toArray, List.nil_append, List.cons_append]
  gi_wp2_with (refine ⟨trivial, ?_⟩; gi_at_call 49; refine (callsIn_wide.2 (backward7 _ _ _ _)).mono ?_; rintro e w' ⟨rfl, rfl⟩)
  clear hmk hcv
  refine wpIn_rangeFunc_raw (gf := 74) (lb := #[.pointer (some ⟨w.heap.size + 1 + 1 + 1, 0, none⟩)]) rfl (enters_of Try.func74 (by kernel_rfl) rfl) fun fn lp hlp => ?_
  have hrow0 := World.ownsRow_made (base := w.heap.size) (e := 5) (size := 1) w A s.length (Nat.le_refl _) (by unfold maxLen; omega) hAs
  obtain ⟨W0, hW0⟩ : ∃ W0, ((((w.alloc (.cells A 5)).alloc (.cells #[.slice (some ⟨w.heap.size, 0, none⟩) 0 s.length] 75)).alloc (.cells C 5 fr)).alloc (.cells #[.slice (some ⟨w.heap.size + 1 + 1, 0, none⟩) s.length cap] 75)).drew = W0 := ⟨_, rfl⟩
  have hz : W0.heap.size = w.heap.size + 4 := by rw [← hW0]; simp
  rw [hW0, hz]
  have j0 : DigJ w.heap.size w lp s cap C fr [] ((W0.alloc (.deferred (some []))).alloc (.loop lp)) (.slice (some ⟨w.heap.size, 0, none⟩) 0 s.length) := by
    have b1 : Boxed W0 (w.heap.size + 1) 75 (.slice (some ⟨w.heap.size, 0, none⟩) 0 s.length) := by
      rw [← hW0]
      have := ((Boxed.new (w.alloc (.cells A 5)) 75 (.slice (some ⟨w.heap.size, 0, none⟩) 0 s.length)).alloc (.cells C 5 fr)).alloc (.cells #[.slice (some ⟨w.heap.size + 1 + 1, 0, none⟩) s.length cap] 75)
      rwa [World.size_alloc] at this
    have b3 : Boxed W0 (w.heap.size + 3) 75 (.slice (some ⟨w.heap.size + 2, 0, none⟩) s.length cap) := by
      rw [← hW0]
      have := Boxed.new (((w.alloc (.cells A 5)).alloc (.cells #[.slice (some ⟨w.heap.size, 0, none⟩) 0 s.length] 75)).alloc (.cells C 5 fr)) 75 (.slice (some ⟨w.heap.size + 2, 0, none⟩) s.length cap)
      rwa [World.size_alloc, World.size_alloc, World.size_alloc] at this
    have b2 : W0.heap[w.heap.size + 2]? = some (.cells C 5 fr) := by
      rw [← hW0]
      have h := World.alloc_heap_new ((w.alloc (.cells A 5)).alloc (.cells #[.slice (some ⟨w.heap.size, 0, none⟩) 0 s.length] 75)) (.cells C 5 fr)
      rw [World.size_alloc, World.size_alloc] at h
      exact (Below.heap_alloc _ _ _ (by simp)).trans h
    have b0 : W0.ownsRow w.heap.size 5 1 (.slice (some ⟨w.heap.size, 0, none⟩) 0 s.length) 0 [] := by
      rw [← hW0]
      exact ((hrow0.alloc _).alloc _).alloc _
    have bb : Below w.heap.size w W0 := by
      rw [← hW0]
      exact (below_all (below_all (below_all (below_all (Below.refl _ _))))).drew
    refine ⟨(b1.alloc _).alloc _, (b0.alloc _).alloc _, ?_, (b3.alloc _).alloc _, by simp [Value.ownBlock], ?_, ?_, below_all (below_all bb), Nat.le_refl _⟩
    · exact (Below.heap_alloc _ _ _ (by simp; omega)).trans ((Below.heap_alloc _ _ _ (by omega)).trans b2)
    · have := World.alloc_heap_new (W0.alloc (.deferred (some []))) (.loop lp)
      rwa [World.size_alloc, hz] at this
    · refine (Below.heap_alloc _ _ _ (by simp; omega)).trans ?_
      have := World.alloc_heap_new W0 (.deferred (some []))
      rwa [hz] at this
  generalize (W0.alloc (.deferred (some []))).alloc (.loop lp) = W1 at *
  clear hrow0 hW0 hz hAs
  refine (back1_in (w.heap.size + 4 + 1) (w.heap.size + 3) (w.heap.size + 2) cap s (by unfold maxLen; omega) (fun pre W => ∃ v, DigJ w.heap.size w lp s cap C fr pre W v) ?round ?read W1 ⟨_, j0⟩).mono ?fin
  case read =>
    rintro pre W ⟨v, j⟩
    exact ⟨j.sbox.cell, fun i h => (cell_of_row W (w.heap.size + 2) i C 5 fr j.src).trans (hC i h)⟩
  case round =>
    rintro pre x i W ⟨v, j⟩ hpl
    have hst : lp.state = .ready := by rw [hlp]
    have hpe : lp.pending = none := by rw [hlp]
    have e1 := congrArg Loop.assign hlp
    have e2 := congrArg Loop.body hlp
    have e3 := congrArg Loop.tmps hlp
    have e4 := congrArg Loop.params hlp
    dsimp only at e1 e2 e3 e4
    clear hlp hC
    refine yieldAt_raw j.loop (by rw [e4]; rfl) ?_
    rw [e1, e2, e3, e4]
    clear e1 e2 e3 e4
    have hbr := run_beginRound (P := Try.prog) j.loop hst
    have j2 := j.putLoop { lp with state := .busy }
    obtain ⟨W2, hW2⟩ : ∃ W2, W.putObj (w.heap.size + 5) (.loop { lp with state := .busy }) = W2 := ⟨_, rfl⟩
    rw [hW2] at hbr j2
    clear hW2 j j0
    have hsz2 : w.heap.size + 5 < W2.heap.size := (Array.getElem?_eq_some_iff.1 j2.loop).1
    have hc := j2.box.cell
    have hrow := j2.row
    have hend : ∀ v' W3, DigJ w.heap.size w { lp with state := .busy } s cap C fr (pre ++ [x]) W3 v' →
        roundPost Try.prog (w.heap.size + 4 + 1) (fun e W' => e = Ending.returned (Value.bool true) ∧ (∃ v, DigJ w.heap.size w lp s cap C fr (pre ++ [x]) W' v)) .normal { tmps := #[], defers := [] } W3 := by
      intro v' W3 j3
      have h4 := run_endRound (P := Try.prog) none j3.loop
      have elp : ({ ({ lp with state := .busy } : Loop) with state := if (none : Option Code).isNone then .ready else .done, pending := none } : Loop) = lp := by
        cases lp; simp at hst hpe; subst hst; subst hpe; rfl
      rw [elp] at h4
      exact ⟨_, _, h4, rfl, ⟨v', j3.putLoop lp⟩⟩
    have Hend := Lib.hid hend
    have Hbr := Lib.hid hbr
    clear hend hpe hst hbr
    gi_wp2
    refine ⟨_, Hbr.out, ?_⟩
    gi_wp2_with (gi_at_builtin; refine wpListIn_append_own_at _ rfl _ _ 75 rfl w.heap.size 5 i0 (.int .u8 0) 1 1 Try.underlying75 hi hz0 hz1 hz2 rfl (by decide) _ _ _ rfl (hrow.alloc _) ⟨W2.heap.size, 0, none⟩ 1 1 [.int .u8 (x.toNat : Nat)] rfl rfl (cell_one_new _ _ _) (by simp [Value.oneCell']) (by unfold maxLen; omega) (by omega) (by simp; omega) ?_; intro v' w1 hown' hgrow _ hat; obtain ⟨g', cap', rfl⟩ := ownsRow_succ hown'; obtain ⟨hv1, hv2, hr2, hk2, hb2⟩ := j2.box.appended (by decide) hrow (by omega) (by omega) hown' hgrow; have hc1 := hv1.cell; have hf1 := hv1.frozen)
    have hsb := ((j2.sbox.alloc (.cells #[.int .u8 (x.toNat : Nat)] 5)).kept hgrow (j2.sbox.not_row (by decide) hrow)).kept (grownBy_setCell' w1 (w.heap.size + 1) (.slice (some ⟨g', 0, none⟩) (pre.length + 1) cap')) (by simp)
    have hsr : (w1.setCell ⟨w.heap.size + 1, 0, none⟩ (.slice (some ⟨g', 0, none⟩) (pre.length + 1) cap')).heap[w.heap.size + 2]? = some (.cells C 5 fr) := by
      refine (heap_setCell_other _ _ _ _ (by simp)).trans ?_
      refine (hgrow.block _ (by simp; omega) (fun e => j2.apart e.symm)).trans ?_
      exact (Below.heap_alloc _ _ _ (by omega)).trans j2.src
    refine Hend.out _ _ ⟨hv2, by simpa using hr2, hsr, hsb, ?_, hk2.same _ _ j2.loop rfl, hk2.same _ _ j2.defd rfl, j2.below.trans hb2, j2.size⟩
    intro e
    rcases hat with h | h
    · exact j2.apart (h.symm.trans e)
    · rw [h] at e; simp at e; omega
  case fin =>
    rintro e W2 ⟨⟨v, rfl⟩, u, j⟩
    have hst : lp.state ≠ .busy := by rw [hlp]; simp
    have hpe : lp.pending = none := by rw [hlp]
    clear hlp
    have hel := run_endLoop (P := Try.prog) j.loop hst
    rw [hpe] at hel
    have j2 := j.putLoop { lp with state := .exhausted, pending := none }
    refine ⟨none, _, hel, ?_⟩
    obtain ⟨W3, hW3⟩ : ∃ W3, W2.putObj (w.heap.size + 5) (.loop { lp with state := .exhausted, pending := none }) = W3 := ⟨_, rfl⟩
    rw [hW3] at j2
    rw [hW3]
    clear hel hW3 j j0
    have hc := j2.box.cell
    have hsum1 := fun W => sum_any s W (by unfold maxLen; omega)
    have hsum2 := fun W => sum_any s.reverse W (by rw [List.length_reverse]; unfold maxLen; omega)
    have q1 := sum_bd s
    have q2 := sum_bd s.reverse
    have e32 := shl32 (crcSum s) q1
    have o32 := or32 (crcSum s) (crcSum s.reverse) q1 q2
    have hbx := Lib.hid j2.box
    have hbd := Lib.hid j2.below
    have hdf := Lib.hid j2.defd
    have hcv : ∀ W, Below W3.heap.size W3 W → (convert 75 9 u).run Try.prog W = .ok (.string (S s.reverse)) W := by
      intro W hW
      rcases j2.row.2 with ⟨h0, h1⟩ | ⟨g, cp, cur, rfl, hb, hg, hle, _⟩
      · rw [h0]
        have hr : s.reverse = [] := List.eq_nil_of_length_eq_zero h1
        rw [hr]
        exact run_convert_bytes_nil (P := Try.prog) W 75 5 Try.underlying75 Try.underlying5 0 0 9 Try.underlying9
      · have h := run_convert_bytes_arg (P := Try.prog) W 75 5 Try.underlying75 Try.underlying5 g 0 s.reverse.length cp (s.reverse.map fun x => (x.toNat : Int)) (by simp) (by
          intro i hi
          have h1 := j2.row.cellAt (g := g) i (by simpa using hi)
          have h3 : (s.reverse.map fun x => Value.int .u8 (x.toNat : Nat))[i]? = some (.int .u8 (s.reverse[i].toNat : Nat)) := by rw [List.getElem?_map, List.getElem?_eq_getElem hi]; rfl
          have h1 := h1.trans h3
          have h2 := hW.cell (p := ⟨g, i, none⟩) (cell_lt (b := g) (off := i) h1)
          rw [Nat.zero_add, h2, h1, List.getD_eq_getElem?_getD, List.getElem?_map, List.getElem?_eq_getElem hi]
          rfl) 9 Try.underlying9
        rw [nums_rev] at h
        exact h
    have wx1 : IntKind.u64.wrap (crcSum s : Int) = (crcSum s : Int) := by rw [IntKind.wrap_u64]; omega
    have wx2 : IntKind.u64.wrap (crcSum s.reverse : Int) = (crcSum s.reverse : Int) := by rw [IntKind.wrap_u64]; omega
    have hdig : digest s = crcSum s * 4294967296 + crcSum s.reverse := rfl
    generalize crcSum s = x1 at *
    generalize crcSum s.reverse = x2 at *
    rename_i K hK0
    simp only [Exit.inBlock, Exit.then]
    apply hK0
    refine wpIn_wide.2 ?_
    have hck : ∀ W, Below W3.heap.size W3 W → W.cell? ⟨w.heap.size + 1, 0, none⟩ = some u := fun W hW => (hW.cell (p := ⟨w.heap.size + 1, 0, none⟩) (cell_lt hc)).trans hc
    have hcv0 := hcv W3.drew (Below.refl _ _).drew
    go_wp2_with fail
    refine wp_region_noPanic ?_
    go_region_with (first | (go_at_call_of 50 (Value.string (S s)); refine (hsum1 _).use ?_; intro w2 hb2; have hB2 : Below W3.heap.size W3 w2 := (by repeat (first | assumption | exact Below.refl _ _ | refine below_all ?_ | refine below_any (Nat.le_refl _) ?_ (by assumption) | refine Below.drew ?_)); have hz2 := hcv w2 hB2; have hc2 := hck w2 hB2) | (go_at_call_of 50 (Value.string (S s.reverse)); refine (hsum2 _).use ?_; intro w4 hb4; have hB4 : Below W3.heap.size W3 w4 := (by repeat (first | assumption | exact Below.refl _ _ | refine below_all ?_ | refine below_any (Nat.le_refl _) ?_ (by assumption) | refine Below.drew ?_)); have hz4 := hcv w4 hB4; have hc4 := hck w4 hB4))
    all_goals
      refine NoPanic.normal ?_
      clear hcv0 hck
      have HD := Lib.hid hdig
      clear hdig
      go_wp2_with fail
      try simp only [wx1, wx2, e32, o32]
      have hlt := (Array.getElem?_eq_some_iff.1 hdf.out).1
      first
      | (refine ⟨by simp, .inl ⟨_, _, rfl, run_takeDeferred ((hB4.block _ hlt).trans hdf.out), ?_⟩⟩
         refine ⟨_, results_tmp rfl _ _ _, ?_, (below_any (Nat.le_refl _) hbd.out hB4).grown (grownBy_putObj' w4 (w.heap.size + 4) (.deferred none)) (by have := hbd.out.size; have := hB4.size; omega) (fun k e => by cases e; omega)⟩
         rw [HD.out]
         simp [Act.put])
      | (refine ⟨by simp, .inl ⟨_, _, rfl, run_takeDeferred ((hB2.block _ hlt).trans hdf.out), ?_⟩⟩
         refine ⟨_, results_tmp rfl _ _ _, ?_, (below_any (Nat.le_refl _) hbd.out hB2).grown (grownBy_putObj' w2 (w.heap.size + 4) (.deferred none)) (by have := hbd.out.size; have := hB2.size; omega) (fun k e => by cases e; omega)⟩
         rw [HD.out]
         simp [Act.put])
end Go.Proofs.Ytohplhahghilaaa
