import Derived.Test.YtohplhahghilaaaChkX
/-
  Layer 7: a chunk's bytes, and the chunk of bytes: contracts.
-/
set_option linter.unusedVariables false
set_option linter.unusedSimpArgs false
namespace Go.Proofs.Ytohplhahghilaaa
open Go.RowKit
attribute [local go_sem] ByteArray.extract_mk ByteArray.mk_append_mk

set_option maxHeartbeats 2000000 in
set_option maxRecDepth 100000 in
theorem put7_ok (c : Chk) (w : World) (hr : c.right = true) (hd : c.d < 18446744073709551616) : RetB Try.prog 21 #[c.val] w (.tuple #[.string (S c.text), .int .i64 0]) := by
  refine RetB.intro fun R hR => ?_
  have cr := right7 c
  rw [hr] at cr
  obtain ⟨h1, h2, h3, h4, h5, h6⟩ := Chk.right_iff.1 hr
  obtain ⟨i, n, d, b⟩ := c
  simp only at h1 h2 h3 h4 h5 h6 hd
  obtain ⟨i, rfl⟩ := Int.eq_ofNat_of_zero_le h3
  obtain ⟨n, rfl⟩ := Int.eq_ofNat_of_zero_le (show 0 ≤ n by omega)
  have p1 : i < 18446744073709551616 := by omega
  have p2 : n < 18446744073709551616 := by omega
  have q1 : IntKind.u64.wrap (i : Int) = i := by rw [IntKind.wrap_u64]; omega
  have q2 : IntKind.u64.wrap (n : Int) = n := by rw [IntKind.wrap_u64]; omega
  have v1 := vput_le i
  have v2 := vput_le n
  have v3 := vput_le d
  have v4 := crcFrame_le b
  have cF := fun w => frame_any b w (by omega)
  have ht : (⟨i, n, d, b⟩ : Chk).text = vput i ++ (vput n ++ (vput d ++ crcFrame b)) := by simp [Chk.text, List.append_assoc]
  rw [ht] at hR
  clear ht hr h1 h2 h3 h4 h5
  unfold Chk.val at cr ⊢
  generalize crcFrame b = fr at *
  have g1 : ¬ 9223372036854775807 < (vput i).length + (vput n).length := by omega
  have g2 : ¬ 9223372036854775807 < (vput i).length + (vput n).length + (vput d).length := by omega
  have g3 : ¬ 9223372036854775807 < (vput i).length + ((vput n).length + (vput d).length) + fr.length := by omega
  have B0 := Blk.new w #[.int .i64 (i : Int), .int .i64 (n : Int), .int .u64 (d : Int), .string (S b)] 38
  have G0 := below_all (o := .cells #[.int .i64 (i : Int), .int .i64 (n : Int), .int .u64 (d : Int), .string (S b)] 38) (Below.refl _ w)
  go_enter Try.func21, Try.ntmps21
  go_wp2_with fail
  refine (cr _).use ?_
  intro w1 b1
  have B1 := B0.below b1
  have G1 := below_any (Nat.le_refl _) G0 b1
  clear B0 G0 b1 cr
  obtain ⟨hz1, x0, x1, x2, x3⟩ := B1.c4
  go_wp2_with fail
  have B1d : Blk w1.drew w.heap.size _ _ := B1
  go_region_held3 (fun w' => w'.cell? ⟨w.heap.size, 0, none⟩ = some (.int .i64 (i : Int)) ∧ w'.cell? ⟨w.heap.size, 1, none⟩ = some (.int .i64 (n : Int)) ∧ w'.cell? ⟨w.heap.size, 2, none⟩ = some (.int .u64 (d : Int)) ∧ w'.cell? ⟨w.heap.size, 3, none⟩ = some (.string (S b)) ∧ w.heap.size < w'.heap.size) (go_keep) (first | (go_at_call 38; refine (put_any _ _ (by assumption)).use ?_; intro w2 hb2; have B2 := Blk.below (by assumption) hb2; obtain ⟨hz2, y0, y1, y2, y3⟩ := B2.c4) | (go_at_call 53; refine (cF _).use ?_; intro w2 hb2; have B2 := Blk.below (by assumption) hb2; obtain ⟨hz2, y0, y1, y2, y3⟩ := B2.c4))
  go_wp2_with fail
  exact finB hR (by repeat (first | assumption | exact Below.refl _ _ | refine below_all ?_ | refine below_any (Nat.le_refl _) ?_ (by assumption) | refine Below.drew ?_)) rfl
set_option maxHeartbeats 1000000 in
theorem put7_no (c : Chk) (w : World) (hr : c.right = false) : RetB Try.prog 21 #[c.val] w (.tuple #[.string (S []), .int .i64 70]) := by
  refine RetB.intro fun R hR => ?_
  have cr := right7 c
  rw [hr] at cr
  unfold Chk.val at cr ⊢
  go_enter Try.func21, Try.ntmps21
  go_wp2_with fail
  refine (cr _).use ?_
  intro w1 b1
  go_wp2_with fail
  exact finB hR (below_any (Nat.le_refl _) (below_all (Below.refl _ _)) b1) rfl

theorem results_cell2 {P : Program} {fn : Func} {p u1 : Tmp} {ty : TypeId} (h : fn.results = #[.cell p ty, .tmp u1]) (tmps : Array Value) (w : World) (g : Nat) (t : TypeId) (cs : Array Value) (fr : Nat × Nat) (d : TypeDesc) (x1 : Value)
    (hp : tmps.getD p undef = .pointer (some ⟨g, 0, none⟩)) (h1 : tmps.getD u1 undef = x1) (hg : w.heap[g]? = some (.cells cs t fr))
    (hu : P.underlying ty = some d) (hd : (match d with | .struct _ | .array _ _ => true | _ => false) = true) (hi : (P.info? ty).map (·.size) = some cs.size) :
    (results fn tmps).run P w = .ok (.tuple #[.agg cs, x1]) w := by
  have hp' : tmps[p]?.getD undef = .pointer (some ⟨g, 0, none⟩) := by simpa using hp
  have h1' : tmps[u1]?.getD undef = x1 := by simpa using h1
  simp [results, h, hp', h1', asAddr, run_loadVar_row w g t ty cs fr d hg hu hd hi]

/-- The chunk of bytes. -/
def c0 : Chk := ⟨0, 0, 0, []⟩
def cget (s : List UInt8) : Chk × Nat :=
  if (cnum s (cnum s 0 false).2.1 (cnum s 0 false).2.2).2.2 = true ∨ (vget s (cnum s (cnum s 0 false).2.1 (cnum s 0 false).2.2).2.1).2.2 ≠ 0 then (c0, 70) else
  let a := cnum s 0 false
  let b := cnum s a.2.1 a.2.2
  let g := vget s b.2.1
  let k := crcCut s g.2.1 4096
  let c : Chk := ⟨a.1, b.1, g.1, k.1⟩
  if k.2.2 ≠ 0 ∨ k.2.1 ≠ s.length ∨ c.right = false then (c0, 70) else (c, 0)

set_option maxHeartbeats 2000000 in
set_option maxRecDepth 100000 in
theorem get7 (s : List UInt8) (w : World) (hs : s.length ≤ 1000000000) : RetB Try.prog 23 #[.string (S s)] w (.tuple #[(cget s).1.val, .int .i64 ((cget s).2 : Nat)]) := by
  refine RetB.intro fun R hR => ?_
  unfold cget at hR
  have cn := fun (p : Int) (bad : Bool) b w (hr : Rd7 w b s p bad) => number7 s p bad b w hr (by unfold maxLen; omega)
  have cv := fun p w => get_any s p w (by unfold maxLen; omega)
  have cc := fun p w => cut_any s p 4096 w (by omega) (by omega)
  obtain ⟨n1, p1, b1, e1⟩ : ∃ n p b, cnum s 0 false = (n, p, b) := ⟨_, _, _, rfl⟩
  have cn1 := cn 0 false
  rw [e1] at cn1 hR
  obtain ⟨n2, p2, b2, e2⟩ : ∃ n p b, cnum s p1 b1 = (n, p, b) := ⟨_, _, _, rfl⟩
  have cn2 := cn p1 b1
  simp only at hR
  rw [e2] at cn2 hR
  simp only at hR
  obtain ⟨d, p3, e, e3⟩ : ∃ n p b, vget s p2 = (n, p, b) := ⟨_, _, _, rfl⟩
  have cv3 := cv p2
  rw [e3] at cv3 hR
  obtain ⟨bd, p4, e', e4⟩ : ∃ n p b, crcCut s p3 4096 = (n, p, b) := ⟨_, _, _, rfl⟩
  have cc4 := cc p3
  simp only at hR
  rw [e4] at cc4 hR
  simp only at hR cn1 cn2 cv3 cc4
  clear e1 e2 e3 e4 cn cv cc
  have CN1 := Lib.hid cn1
  have CN2 := Lib.hid cn2
  clear cn1 cn2
  have A0 := Blk.new w #[.int .i64 0, .int .i64 0, .int .u64 0, .string (S [])] 38
  have R0 : Rd7 ((w.alloc (.cells #[.int .i64 0, .int .i64 0, .int .u64 0, .string (S [])] 38)).alloc (.cells #[.string (S s), .int .i64 0, .bool false] 91)) (w.heap.size + 1) s 0 false := by
    have h := Blk.new (w.alloc (.cells #[.int .i64 0, .int .i64 0, .int .u64 0, .string (S [])] 38)) #[.string (S s), .int .i64 0, .bool false] 91
    rwa [World.size_alloc] at h
  go_enter Try.func23, Try.ntmps23
  go_wp2_with fail
  refine (CN1.out _ _ R0).use ?_
  intro w1 R1 g1
  have A1 := (A0.alloc (.cells #[.string (S s), .int .i64 0, .bool false] 91)).grown g1 (by simp)
  have G1 : Below w.heap.size w w1 := below_own (below_all (below_all (Below.refl _ _))) (by omega) (by simp; omega) g1
  clear R0 A0 g1
  go_wp2_with fail
  refine (CN2.out _ _ R1).use ?_
  intro w2 R2 g2
  have A2 := A1.grown g2 (by simp)
  have G2 : Below w.heap.size w w2 := below_own G1 (by omega) G1.size g2
  have A3 := A2.alloc (.cells #[.int .i64 (n1 : Int), .int .i64 (n2 : Int), .int .u64 0, .string (S [])] 38)
  have R3 := Blk.alloc R2 (.cells #[.int .i64 (n1 : Int), .int .i64 (n2 : Int), .int .u64 0, .string (S [])] 38)
  have C3 := Blk.new w2 #[.int .i64 (n1 : Int), .int .i64 (n2 : Int), .int .u64 0, .string (S [])] 38
  have G3 := below_all (o := .cells #[.int .i64 (n1 : Int), .int .i64 (n2 : Int), .int .u64 0, .string (S [])] 38) G2
  have z3 := Blk.lt R2
  obtain ⟨z3, q0, q1, q2⟩ := Blk.c3 R2
  clear R1 A1 g2 A2 R2 G1 G2 CN1 CN2
  go_wp2_with fail
  clear q0 q1 q2
  generalize w2.alloc (.cells #[.int .i64 (n1 : Int), .int .i64 (n2 : Int), .int .u64 0, .string (S [])] 38) = W at A3 R3 C3 G3 ⊢
  generalize w2.heap.size = X at C3 z3 ⊢
  obtain ⟨r0, r1, r2, r3⟩ := Blk.c3 R3
  obtain ⟨x0, x1, x2, x3, x4⟩ := C3.c4
  obtain ⟨y0, y1, y2, y3, y4⟩ := A3.c4
  have f1 : ∀ i, W.frozen? ⟨X, i, none⟩ = false := fun i => Blk.frozen C3 i
  have f2 : ∀ i, W.frozen? ⟨w.heap.size, i, none⟩ = false := fun i => Blk.frozen A3 i
  have m1 : w.heap.size ≠ X := by omega
  have m2 : w.heap.size + 1 ≠ X := by omega
  refine (cv3 _).use ?_
  clear cv3
  have bad : b2 = true ∨ e ≠ 0 → ∀ w', Below w.heap.size w w' → R (.returned (.tuple #[.agg #[.int .i64 0, .int .i64 0, .int .u64 0, .string (S [])], .int .i64 70])) w' := fun h w' hb => by
    have := hR.out w' hb
    rw [if_pos h] at this
    exact this
  by_cases hb : b2 = true ∨ e ≠ 0
  · have hbad := Lib.hid (bad hb)
    clear bad
    cases b2
    · have h1 : (e != 0) = true := by simpa using hb
      clear hb
      go_wp2_with fail
      refine bodyPost_ret (results_cell2 rfl _ _ w.heap.size 38 #[.int .i64 0, .int .i64 0, .int .u64 0, .string (S [])] (0, 0) _ _ rfl rfl ?c1 Try.underlying38 rfl (by kernel_rfl)) rfl ?_
      case c1 => exact (((A3.set 0 (.int .i64 0)).set 1 (.int .i64 0)).set 2 (.int .u64 0)).set 3 (.string (S []))
      exact hbad.out _ ((((G3.setCell (p := ⟨w.heap.size, 0, none⟩) (Nat.le_refl _) _).setCell (p := ⟨w.heap.size, 1, none⟩) (Nat.le_refl _) _).setCell (p := ⟨w.heap.size, 2, none⟩) (Nat.le_refl _) _).setCell (p := ⟨w.heap.size, 3, none⟩) (Nat.le_refl _) _)
    · clear hb
      go_wp2_with fail
      refine bodyPost_ret (results_cell2 rfl _ _ w.heap.size 38 #[.int .i64 0, .int .i64 0, .int .u64 0, .string (S [])] (0, 0) _ _ rfl rfl ?c1 Try.underlying38 rfl (by kernel_rfl)) rfl ?_
      case c1 => exact (((A3.set 0 (.int .i64 0)).set 1 (.int .i64 0)).set 2 (.int .u64 0)).set 3 (.string (S []))
      exact hbad.out _ ((((G3.setCell (p := ⟨w.heap.size, 0, none⟩) (Nat.le_refl _) _).setCell (p := ⟨w.heap.size, 1, none⟩) (Nat.le_refl _) _).setCell (p := ⟨w.heap.size, 2, none⟩) (Nat.le_refl _) _).setCell (p := ⟨w.heap.size, 3, none⟩) (Nat.le_refl _) _)
  · have hb2 : b2 = false ∧ e = 0 := by simpa using hb
    obtain ⟨rfl, rfl⟩ := hb2
    rw [if_neg hb] at hR
    clear hb bad
    go_wp2_with fail
    refine (cc4 _).use ?_
    intro w3 hb3
    have A4 := A3.below hb3
    have C4 := C3.below hb3
    have G4 := below_any (Nat.le_refl _) G3 hb3
    have zX : w.heap.size ≤ X := by omega
    clear cc4 hb3 A3 C3 G3 R3 r0 r1 r2 r3 x0 x1 x2 x3 x4 y0 y1 y2 y3 y4 f1 f2
    have A5 := (A4.setOther (a := ⟨X, 2, none⟩) m1 (.int .u64 (d : Int))).setOther (a := ⟨X, 3, none⟩) m1 (.string (S bd))
    have C5 := (C4.set 2 (.int .u64 (d : Int))).set 3 (.string (S bd))
    have G5 := (G4.setCell (p := ⟨X, 2, none⟩) zX (.int .u64 (d : Int))).setCell (p := ⟨X, 3, none⟩) zX (.string (S bd))
    have C5 : Blk _ X #[.int .i64 (n1 : Int), .int .i64 (n2 : Int), .int .u64 (d : Int), .string (S bd)] 38 := C5
    obtain ⟨x0, x1, x2, x3, x4⟩ := C4.c4
    obtain ⟨y0, y1, y2, y3, y4⟩ := A4.c4
    have f1 : ∀ i, w3.frozen? ⟨X, i, none⟩ = false := fun i => Blk.frozen C4 i
    have f2 : ∀ i, w3.frozen? ⟨w.heap.size, i, none⟩ = false := fun i => Blk.frozen A4 i
    have bad : (e' ≠ 0 ∨ p4 ≠ s.length ∨ (⟨n1, n2, d, bd⟩ : Chk).right = false) → ∀ w', Below w.heap.size w w' → R (.returned (.tuple #[.agg #[.int .i64 0, .int .i64 0, .int .u64 0, .string (S [])], .int .i64 70])) w' := fun h w' hb => by
      have := hR.out w' hb
      rw [if_pos h] at this
      exact this
    have good : ¬ (e' ≠ 0 ∨ p4 ≠ s.length ∨ (⟨n1, n2, d, bd⟩ : Chk).right = false) → ∀ w', Below w.heap.size w w' → R (.returned (.tuple #[.agg #[.int .i64 (n1 : Int), .int .i64 (n2 : Int), .int .u64 (d : Int), .string (S bd)], .int .i64 0])) w' := fun h w' hb => by
      have := hR.out w' hb
      rw [if_neg h] at this
      exact this
    have cr := fun w => right7 ⟨n1, n2, d, bd⟩ w
    unfold Chk.val at cr
    have CR := Lib.hid cr
    clear hR cr C4
    by_cases h1 : e' = 0
    · subst h1
      by_cases h2 : p4 = s.length
      · subst h2
        have h3 : (((s.length : Nat) : Int) != (s.length : Int)) = false := by simp
        obtain ⟨q, hq⟩ : ∃ q, (⟨n1, n2, d, bd⟩ : Chk).right = q := ⟨_, rfl⟩
        have CR2 := fun w => (CR.out w).cast (v' := .bool q) (by rw [hq])
        cases q
        · have HB := Lib.hid (bad (.inr (.inr hq)))
          clear bad good CR hq
          go_wp2_with fail
          refine (CR2 _).use ?_
          intro w4 hb4
          have A6 := A5.below hb4
          have G6 := below_any (Nat.le_refl _) G5 hb4
          clear CR2 hb4 A5 G5 C5 A4 G4 x0 x1 x2 x3 x4 y0 y1 y2 y3 y4 f1 f2
          obtain ⟨y0, y1, y2, y3, y4⟩ := A6.c4
          have f2 : ∀ i, w4.frozen? ⟨w.heap.size, i, none⟩ = false := fun i => Blk.frozen A6 i
          go_wp2_with fail
          refine bodyPost_ret (results_cell2 rfl _ _ w.heap.size 38 #[.int .i64 0, .int .i64 0, .int .u64 0, .string (S [])] (0, 0) _ _ rfl rfl ?c1 Try.underlying38 rfl (by kernel_rfl)) rfl ?_
          case c1 => exact (((A6.set 0 (.int .i64 0)).set 1 (.int .i64 0)).set 2 (.int .u64 0)).set 3 (.string (S []))
          exact HB.out _ ((((G6.setCell (p := ⟨w.heap.size, 0, none⟩) (Nat.le_refl _) _).setCell (p := ⟨w.heap.size, 1, none⟩) (Nat.le_refl _) _).setCell (p := ⟨w.heap.size, 2, none⟩) (Nat.le_refl _) _).setCell (p := ⟨w.heap.size, 3, none⟩) (Nat.le_refl _) _)
        · have HG := Lib.hid (good (by simp [hq]))
          clear bad good CR hq
          go_wp2_with fail
          refine (CR2 _).use ?_
          intro w4 hb4
          have A6 := A5.below hb4
          have C6 := C5.below hb4
          have G6 := below_any (Nat.le_refl _) G5 hb4
          clear CR2 hb4 A5 G5 C5 A4 G4 x0 x1 x2 x3 x4 y0 y1 y2 y3 y4 f1 f2
          obtain ⟨x0, x1, x2, x3, x4⟩ := C6.c4
          obtain ⟨y0, y1, y2, y3, y4⟩ := A6.c4
          have f2 : ∀ i, w4.frozen? ⟨w.heap.size, i, none⟩ = false := fun i => Blk.frozen A6 i
          go_wp2_with fail
          refine bodyPost_ret (results_cell2 rfl _ _ w.heap.size 38 #[.int .i64 (n1 : Int), .int .i64 (n2 : Int), .int .u64 (d : Int), .string (S bd)] (0, 0) _ _ rfl rfl ?c1 Try.underlying38 rfl (by kernel_rfl)) rfl ?_
          case c1 => exact (((A6.set 0 _).set 1 _).set 2 _).set 3 _
          exact HG.out _ ((((G6.setCell (p := ⟨w.heap.size, 0, none⟩) (Nat.le_refl _) _).setCell (p := ⟨w.heap.size, 1, none⟩) (Nat.le_refl _) _).setCell (p := ⟨w.heap.size, 2, none⟩) (Nat.le_refl _) _).setCell (p := ⟨w.heap.size, 3, none⟩) (Nat.le_refl _) _)
      · have h3 : (p4 != (s.length : Int)) = true := by simpa using h2
        have HB := Lib.hid (bad (.inr (.inl h2)))
        clear h2 bad good CR C5
        go_wp2_with fail
        refine bodyPost_ret (results_cell2 rfl _ _ w.heap.size 38 #[.int .i64 0, .int .i64 0, .int .u64 0, .string (S [])] (0, 0) _ _ rfl rfl ?c1 Try.underlying38 rfl (by kernel_rfl)) rfl ?_
        case c1 => exact (((A5.set 0 (.int .i64 0)).set 1 (.int .i64 0)).set 2 (.int .u64 0)).set 3 (.string (S []))
        exact HB.out _ ((((G5.setCell (p := ⟨w.heap.size, 0, none⟩) (Nat.le_refl _) _).setCell (p := ⟨w.heap.size, 1, none⟩) (Nat.le_refl _) _).setCell (p := ⟨w.heap.size, 2, none⟩) (Nat.le_refl _) _).setCell (p := ⟨w.heap.size, 3, none⟩) (Nat.le_refl _) _)
    · have h3 : (e' != 0) = true := by simpa using h1
      have HB := Lib.hid (bad (.inl h1))
      clear h1 bad good CR C5
      go_wp2_with fail
      refine bodyPost_ret (results_cell2 rfl _ _ w.heap.size 38 #[.int .i64 0, .int .i64 0, .int .u64 0, .string (S [])] (0, 0) _ _ rfl rfl ?c1 Try.underlying38 rfl (by kernel_rfl)) rfl ?_
      case c1 => exact (((A5.set 0 (.int .i64 0)).set 1 (.int .i64 0)).set 2 (.int .u64 0)).set 3 (.string (S []))
      exact HB.out _ ((((G5.setCell (p := ⟨w.heap.size, 0, none⟩) (Nat.le_refl _) _).setCell (p := ⟨w.heap.size, 1, none⟩) (Nat.le_refl _) _).setCell (p := ⟨w.heap.size, 2, none⟩) (Nat.le_refl _) _).setCell (p := ⟨w.heap.size, 3, none⟩) (Nat.le_refl _) _)
end Go.Proofs.Ytohplhahghilaaa
