import Derived.Test.YtohplhahghilaaaChkG
import Derived.Test.YtohplhahghilaaaChkD
/-
  Layer 7: the segment of bytes: the contract.
-/
set_option linter.unusedVariables false
set_option linter.unusedSimpArgs false
namespace Go.Proofs.Ytohplhahghilaaa
open Go.RowKit
attribute [local go_sem] ByteArray.extract_mk ByteArray.mk_append_mk

/-- A segment is told in a row of the caller's own whose bytes these are; or none is, and then no segment has these bytes. -/
def SegOf (f : FuncId) (args : Array Value) (w : World) (s : List UInt8) : Prop :=
  Calls Try.prog f args w fun x w' => Below w.heap.size w w' ∧
    ((∃ base next v l, x = .returned (.tuple #[.agg #[.int .i64 base, .int .i64 next, v], .int .i64 0]) ∧ w'.ownsRow w.heap.size 70 5 v l.length (l.flatMap Fnd.cells) ∧ lerr base next l = 0 ∧ stext base next l = s) ∨
     (x = .returned (.tuple #[.agg #[.int .i64 0, .int .i64 0, .slice none 0 0], .int .i64 70]) ∧ ∀ base next l, lerr base next l = 0 → stext base next l ≠ s))
theorem SegOf.intro {f : FuncId} {args : Array Value} {w : World} {s : List UInt8}
    (h : ∀ R : Ending → World → Prop, Hid (∀ w' base next v l, Below w.heap.size w w' → w'.ownsRow w.heap.size 70 5 v l.length (l.flatMap Fnd.cells) → lerr base next l = 0 → stext base next l = s → R (.returned (.tuple #[.agg #[.int .i64 base, .int .i64 next, v], .int .i64 0])) w') →
      Hid (∀ w', Below w.heap.size w w' → (∀ base next l, lerr base next l = 0 → stext base next l ≠ s) → R (.returned (.tuple #[.agg #[.int .i64 0, .int .i64 0, .slice none 0 0], .int .i64 70])) w') → Calls Try.prog f args w R) : SegOf f args w s :=
  h _ (fun w' base next v l h1 h2 h3 h4 => ⟨h1, .inl ⟨base, next, v, l, rfl, h2, h3, h4⟩⟩) (fun w' h1 h2 => ⟨h1, .inr ⟨rfl, h2⟩⟩)
theorem SegOf.use {f : FuncId} {args : Array Value} {w : World} {s : List UInt8} {R : Ending → World → Prop} (h : SegOf f args w s)
    (k1 : ∀ w' base next v l, Below w.heap.size w w' → w'.ownsRow w.heap.size 70 5 v l.length (l.flatMap Fnd.cells) → lerr base next l = 0 → stext base next l = s → R (.returned (.tuple #[.agg #[.int .i64 base, .int .i64 next, v], .int .i64 0])) w')
    (k2 : ∀ w', Below w.heap.size w w' → (∀ base next l, lerr base next l = 0 → stext base next l ≠ s) → R (.returned (.tuple #[.agg #[.int .i64 0, .int .i64 0, .slice none 0 0], .int .i64 70])) w') : Calls Try.prog f args w R :=
  h.mono fun x w' ⟨hb, hx⟩ => by
    rcases hx with ⟨base, next, v, l, rfl, h2, h3, h4⟩ | ⟨rfl, h2⟩
    · exact k1 w' base next v l hb h2 h3 h4
    · exact k2 w' hb h2

/-- Parse's state. -/
structure P7 (w : World) (s : List UInt8) (base next : Int) (X : Nat) (l : List Fnd) (p : Int) (bad : Bool) (lv : Value) (W : World) : Prop where
  rd : Rd7 W (w.heap.size + 1) s p bad
  res : Blk W w.heap.size #[.int .i64 0, .int .i64 0, .slice none 0 0] 24
  sg : Blk W X #[.int .i64 base, .int .i64 next, lv] 24
  own : W.ownsRow w.heap.size 70 5 lv l.length (l.flatMap Fnd.cells)
  bel : Below w.heap.size w W
  hX : w.heap.size + 1 < X
section
variable {w W W' : World} {s : List UInt8} {base next : Int} {X : Nat} {l : List Fnd} {p p' : Int} {bad bad' : Bool} {lv lv' : Value}
theorem P7.call (h : P7 w s base next X l p bad lv W) (r : Rd7 W' (w.heap.size + 1) s p' bad') (g : W.grownBy W' (some (w.heap.size + 1))) : P7 w s base next X l p' bad' lv W' :=
  ⟨r, h.res.grown g (by simp), h.sg.grown g (by have := h.hX; simp; omega), h.own.kept g (.inr (Ne.symm (own_ne h.own h.rd (by decide)))), below_own h.bel (by omega) h.bel.size g, h.hX⟩
theorem P7.below (h : P7 w s base next X l p bad lv W) (b : Below W.heap.size W W') : P7 w s base next X l p bad lv W' :=
  ⟨Blk.below h.rd b, h.res.below b, h.sg.below b, own_keptBy h.own (Kept.ofBelow b []) (away_nil _), below_any (Nat.le_refl _) h.bel b, h.hX⟩
theorem P7.alloc (h : P7 w s base next X l p bad lv W) (o : Obj) : P7 w s base next X l p bad lv (W.alloc o) := h.below (below_all (Below.refl _ _))
theorem P7.app {f : Fnd} (h : P7 w s base next X l p bad lv W) (o : W'.ownsRow w.heap.size 70 5 lv' (l.length + 1) (l.flatMap Fnd.cells ++ f.cells)) (g : W.grownBy W' lv.ownBlock) : P7 w s base next X (l ++ [f]) p bad lv' (W'.setCell ⟨X, 2, none⟩ lv') := by
  have h1 := h.sg.grown g (own_ne h.own h.sg (by decide))
  have g2 : W'.grownBy (W'.setCell ⟨X, 2, none⟩ lv') (some X) := grown_set (grown_refl _ _) _ _
  have hx := h.hX
  refine ⟨?_, ?_, h1.set 2 lv', ?_, ?_, h.hX⟩
  · exact Blk.grown (Blk.grown h.rd g (own_ne h.own h.rd (by decide))) g2 (by simp; omega)
  · exact (h.res.grown g (own_ne h.own h.res (by decide))).grown g2 (by simp; omega)
  · have := o.kept g2 (.inr (Ne.symm (own_ne o h1 (by decide))))
    simpa using this
  · refine (Kept.below h.bel (Kept.ofGrown g) (by intro x hx; simp only [Option.mem_toList] at hx; exact (h.own.lt x hx).1) h.bel.size).setCell (p := ⟨X, 2, none⟩) (show w.heap.size ≤ X by omega) _
end

set_option maxHeartbeats 4000000 in
set_option maxRecDepth 100000 in
theorem parse7 (s : List UInt8) (w : World) (hs : s.length ≤ 200000) : SegOf 13 #[.string (S s)] w s := by
  refine SegOf.intro fun R hG hB => ?_
  obtain ⟨i0, hi, hz0, hz1, hz2⟩ := info_parts fndInfo
  have cn := fun (p : Int) (bad : Bool) b w (hr : Rd7 w b s p bad) => number7 s p bad b w hr (by unfold maxLen; omega)
  have cr := fun (p : Int) (bad : Bool) b w (hr : Rd7 w b s p bad) => record7 s p bad b w hr (by unfold maxLen; omega)
  have CN := Lib.hid cn
  have CR := Lib.hid cr
  obtain ⟨x1, p1, b1, e1⟩ : ∃ n p b, cnum s 0 false = (n, p, b) := ⟨_, _, _, rfl⟩
  obtain ⟨x2, p2, b2, e2⟩ : ∃ n p b, cnum s p1 b1 = (n, p, b) := ⟨_, _, _, rfl⟩
  obtain ⟨x3, p3, b3, e3⟩ : ∃ n p b, cnum s p2 b2 = (n, p, b) := ⟨_, _, _, rfl⟩
  have CN1 := cn 0 false
  have CN2 := cn p1 b1
  have CN3 := cn p2 b2
  rw [e1] at CN1
  rw [e2] at CN2
  rw [e3] at CN3
  have hpg := PGood.start e1 e2 e3
  obtain ⟨n1, m1⟩ := cnum_bd e1
  obtain ⟨n2, m2⟩ := cnum_bd e2
  obtain ⟨n3, m3⟩ := cnum_bd e3
  simp only at CN1 CN2 CN3
  have CN1 := Lib.hid CN1
  have CN2 := Lib.hid CN2
  have CN3 := Lib.hid CN3
  have HPG := Lib.hid hpg
  have HM3 := Lib.hid m3
  clear e1 e2 e3 cn cr m1 m2 hpg m3
  have A0 := Blk.new w #[.int .i64 0, .int .i64 0, .slice none 0 0] 24
  have R0 : Rd7 ((w.alloc (.cells #[.int .i64 0, .int .i64 0, .slice none 0 0] 24)).alloc (.cells #[.string (S s), .int .i64 0, .bool false] 91)) (w.heap.size + 1) s 0 false := by
    have h := Blk.new (w.alloc (.cells #[.int .i64 0, .int .i64 0, .slice none 0 0] 24)) #[.string (S s), .int .i64 0, .bool false] 91
    rwa [World.size_alloc] at h
  go_enter Try.func13, Try.ntmps13
  go_wp2_with fail
  refine (CN1.out _ _ R0).use ?_
  intro w1 R1 g1
  have A1 := (A0.alloc (.cells #[.string (S s), .int .i64 0, .bool false] 91)).grown g1 (by simp)
  have G1 : Below w.heap.size w w1 := below_own (below_all (below_all (Below.refl _ _))) (by omega) (by simp; omega) g1
  clear R0 A0 g1
  go_wp2_with fail
  refine (CN2.out _ _ R1).use ?_
  intro w2 R2 g2
  have A2 := A1.grown g2 (by simp)
  have G2 : Below w.heap.size w w2 := below_own G1 (by omega) G1.size g2
  have A3 := A2.alloc (.cells #[.int .i64 (x1 : Int), .int .i64 (x2 : Int), .slice none 0 0] 24)
  have R3 := Blk.alloc R2 (.cells #[.int .i64 (x1 : Int), .int .i64 (x2 : Int), .slice none 0 0] 24)
  have C3 := Blk.new w2 #[.int .i64 (x1 : Int), .int .i64 (x2 : Int), .slice none 0 0] 24
  have G3 := below_all (o := .cells #[.int .i64 (x1 : Int), .int .i64 (x2 : Int), .slice none 0 0] 24) G2
  have z3 := Blk.lt R2
  have P3 : P7 w s x1 x2 w2.heap.size [] p2 b2 (.slice none 0 0) (w2.alloc (.cells #[.int .i64 (x1 : Int), .int .i64 (x2 : Int), .slice none 0 0] 24)) := ⟨R3, A3, C3, World.ownsRow_nil _ _ _ _, G3, z3⟩
  clear R1 A1 g2 A2 R2 G1 G2 A3 R3 C3 G3 z3 CN1 CN2
  go_wp2_with fail
  generalize w2.alloc (.cells #[.int .i64 (x1 : Int), .int .i64 (x2 : Int), .slice none 0 0] 24) = W3 at P3 ⊢
  generalize w2.heap.size = X at P3 ⊢
  refine (CN3.out _ _ P3.rd).use ?_
  intro w4 R4 g4
  have P4 := P3.call R4 g4
  clear P3 R4 g4 CN3
  obtain ⟨k0, y0, y1, y2⟩ := P4.sg.c3
  go_wp2_with fail
  clear k0 y0 y1 y2
  go_loopw [7, 8, 9] (fun (v7 v8 v9 : Value) (W : World) => ∃ (k : Nat) (l : List Fnd) (p : Int) (bad : Bool) (lv : Value) (least : Int), k ≤ x3 ∧ v8 = .int .i64 (k : Int) ∧ v7 = .int .i64 least ∧ l.length = k ∧ P7 w s x1 x2 X l p bad lv W ∧ Hid (PGood s x1 x2 x3 l least p bad) ∧ Hid (bad = false → (k : Int) ≤ p ∧ p ≤ s.length) ∧ k ≤ 200001 ∧ 0 ≤ least ∧ least ≤ 1099511627776 + 1099511627777 * (k : Int) ∧ Hid (∀ f ∈ l, RecBd f.r)) (fun (v7 v8 v9 : Value) (W : World) => (x3 - intOf v8).toNat)
  case atStart => exact ⟨0, [], p3, b3, .slice none 0 0, x1, by omega, rfl, rfl, rfl, P4, HPG, Lib.hid (fun h => by have := HM3.out h; omega), by omega, by omega, by omega, Lib.hid (by simp)⟩
  case round =>
    obtain ⟨k, l, p, bad, lv, least, hk, rfl, rfl, hlk, hP, hPG, hpk, hk1, hl0, hl1, hbd⟩ := hrel
    subst hlk
    obtain ⟨kr, r0, r1, r2⟩ := Blk.c3 hP.rd
    by_cases hgo : l.length < x3 ∧ bad = false
    · obtain ⟨hkx, rfl⟩ := hgo
      have hpk2 := hpk.out rfl
      have hk2 : l.length ≤ 200000 := by omega
      obtain ⟨d, q, b5, e5⟩ : ∃ n a b, cnum s p false = (n, a, b) := ⟨_, _, _, rfl⟩
      obtain ⟨r, p6, b6, e6⟩ : ∃ n a b, crec s q b5 = (n, a, b) := ⟨_, _, _, rfl⟩
      have c5 := CN.out p false
      have c6 := CR.out q b5
      rw [e5] at c5
      rw [e6] at c6
      simp only at c5 c6
      obtain ⟨d1, d2⟩ := cnum_bd e5
      obtain ⟨d3, d4⟩ := crec_bd e6
      have hpg2 := Lib.hid (hPG.out.step (by omega) e5 e6)
      have D4 := Lib.hid d4
      have D2 := Lib.hid d2
      have c5 := Lib.hid c5
      have c6 := Lib.hid c6
      have q1 : IntKind.i64.wrap (least + (d : Int)) = least + (d : Int) := by rw [IntKind.wrap_i64]; omega
      have q2 : IntKind.i64.wrap (least + (d : Int) + 1) = least + (d : Int) + 1 := by rw [IntKind.wrap_i64]; omega
      clear e5 e6 hPG d2 d4
      go_wp2_with fail
      refine (c5.out _ _ hP.rd).use ?_
      intro w5 R5 g5
      have P5 := hP.call R5 g5
      clear R5 g5 hP kr r0 r1 r2 c5
      go_wp2_with fail
      refine (c6.out _ _ P5.rd).use ?_
      intro w6 R6 g6
      have P6 := P5.call R6 g6
      clear R6 g6 P5 c6
      have P7 := P6.alloc (.cells #[.int .i64 (least + (d : Int)), .bool r.hk, .string (S r.key), .bool r.tb, .string (S r.val)] 70)
      have F7 := Blk.new w6 #[.int .i64 (least + (d : Int)), .bool r.hk, .string (S r.key), .bool r.tb, .string (S r.val)] 70
      have P8 := P7.alloc (.cells #[.int .i64 (least + (d : Int)), .bool r.hk, .string (S r.key), .bool r.tb, .string (S r.val)] 70)
      obtain ⟨k0, y0, y1, y2⟩ := P6.sg.c3
      obtain ⟨f, hf⟩ : ∃ f : Fnd, (⟨least + (d : Int), r⟩ : Fnd) = f := ⟨_, rfl⟩
      have hf1 : f.off = least + (d : Int) := by rw [← hf]
      have hf2 : f.r = r := by rw [← hf]
      have hne := news_fnd (W := w6.alloc (.cells #[.int .i64 (least + (d : Int)), .bool r.hk, .string (S r.key), .bool r.tb, .string (S r.val)] 70)) f (s := w6.heap.size + 1) (by simp)
      unfold Fnd.cells Rec.cells at hne
      rw [hf1, hf2] at hne
      have hlo : lv.ownBlock ≠ some w6.heap.size := fun e => by have := own_lt P6.own _ e; omega
      obtain ⟨la, lc, rfl⟩ := own_form P6.own
      rw [hf] at hpg2
      have z6 := P6.bel.size
      have F8 := F7.alloc (.cells #[.int .i64 (least + (d : Int)), .bool r.hk, .string (S r.key), .bool r.tb, .string (S r.val)] 70)
      have o8 := P8.own
      have fz : ∀ i, w6.frozen? ⟨X, i, none⟩ = false := fun i => Blk.frozen P6.sg i
      have hX := P6.hX
      clear P7 F7
      have P6 := Lib.hid P6
      have P8 := Lib.hid P8
      go_wp2_with (at_builtin; refine wpList_append_own_at _ rfl _ _ 22 rfl w.heap.size 70 i0 _ 5 56 Try.underlying22 hi hz0 hz1 hz2 rfl (by decide) _ _ _ rfl o8 ⟨w6.heap.size + 1, 0, none⟩ 1 1 [.int .i64 (least + (d : Int)), .bool r.hk, .string (S r.key), .bool r.tb, .string (S r.val)] rfl rfl hne (by simp [Value.oneCell']) (by unfold maxLen; omega) (by omega) (by simp; omega) ?_; intro vv5 w9 o9 g9 z9 at9; obtain ⟨va9, vc9, rfl⟩ := own_form o9; have S9 := (P8.out.sg.grown g9 (own_ne P8.out.own P8.out.sg (by decide))); have F9 := F8.grown g9 (fun e => hlo e.symm); obtain ⟨k9, s0, s1, s2⟩ := S9.c3; obtain ⟨kf, t0, t1, t2, t3, t4⟩ := F9.c5; have fz9 : ∀ i, w9.frozen? ⟨X, i, none⟩ = false := fun i => Blk.frozen S9 i)
      have P9 := P8.out.app (f := f) (by unfold Fnd.cells Rec.cells; rw [hf1, hf2]; exact o9) g9
      have P9 := Lib.hid P9
      have hD4 : Hid (b6 = false → ((l.length + 1 : Nat) : Int) ≤ p6 ∧ p6 ≤ s.length) := Lib.hid (fun h => by obtain ⟨a1, a2, a3⟩ := D4.out h; obtain ⟨_, a4, a5, a6⟩ := D2.out a1; omega)
      have hbd2 : Hid (∀ g ∈ l ++ [f], RecBd g.r) := Lib.hid (fun g hg => by
        rcases List.mem_append.1 hg with h | h
        · exact hbd.out g h
        · rw [List.mem_singleton.1 h, hf2]; exact d3)
      clear g9 z9 o9 S9 F9 o8 P8 F8 hne P6 D4 D2 hbd k9 kf
      go_roundw
      case rel => exact ⟨l.length + 1, l ++ [f], p6, b6, _, least + (d : Int) + 1, by omega, by go_num, rfl, by simp, P9.out, hpg2, hD4, by omega, by omega, by omega, hbd2⟩
      case measure => simp [intOf]; omega
    · have hstop : x3 ≤ l.length ∨ bad = true := by
        rcases Nat.lt_or_ge l.length x3 with h | h
        · right; cases bad
          · exact absurd ⟨h, rfl⟩ hgo
          · rfl
        · exact .inl h
      have hx3 : ¬ ((l.length : Int) < (x3 : Int)) ∨ bad = true := hstop.elim (fun h => .inl (by omega)) .inr
      have HST : Hid (∀ (b' n' : Int) (l' : List Fnd), lerr b' n' l' = 0 → stext b' n' l' = s → bad = false ∧ (x1 : Int) = b' ∧ (x2 : Int) = n' ∧ l = l') := Lib.hid (fun b' n' l' hg hs => hPG.out.stop hstop hg hs)
      have cT := text7 x1 x2 lv l wr (fnds_own hP.own) hbd.out (by omega)
      obtain ⟨e, he⟩ : ∃ e, lerr x1 x2 l = e := ⟨_, rfl⟩
      rw [he] at cT
      obtain ⟨tx, htx⟩ : ∃ tx, (if e = 0 then stext x1 x2 l else []) = tx := ⟨_, rfl⟩
      rw [htx] at cT
      have HE := Lib.hid he
      have HX := Lib.hid htx
      obtain ⟨k0, y0, y1, y2⟩ := hP.sg.c3
      obtain ⟨la, lc, rfl⟩ := own_form hP.own
      have CT := Lib.hid cT
      have HP := Lib.hid hP
      clear hPG hpk hbd cT hP he htx CN CR hstop
      cases bad
      · have h1 : ¬ (l.length : Int) < (x3 : Int) := fun h => hgo ⟨by omega, rfl⟩
        clear hgo
        go_wp2_with fail
        refine CT.out.use ?_
        intro w5 hb5
        have P5 := HP.out.below hb5
        have A5 := P5.res
        have C5 := P5.sg
        have HP5 := Lib.hid P5
        clear CT HP hb5 P5 k0 y0 y1 y2 kr r0 r1 r2
        obtain ⟨k0, y0, y1, y2⟩ := C5.c3
        obtain ⟨kr, r0, r1, r2⟩ := Blk.c3 HP5.out.rd
        obtain ⟨kz, u0, u1, u2⟩ := A5.c3
        have fz : ∀ i, w5.frozen? ⟨w.heap.size, i, none⟩ = false := fun i => Blk.frozen A5 i
        by_cases h0 : e = 0
        · subst h0
          have hX2 : Hid (stext x1 x2 l = tx) := Lib.hid (by rw [← HX.out, if_pos rfl])
          by_cases hts : tx = s
          · subst hts
            have h2 : (tx != tx) = false := by simp
            have h3 : (tx == tx) = true := by simp
            go_wp2_with fail
            refine bodyPost_ret (results_cell2 rfl _ _ w.heap.size 24 #[.int .i64 (x1 : Int), .int .i64 (x2 : Int), .slice la l.length lc] (0, 0) _ _ rfl rfl ?c1 Try.underlying24 rfl (by kernel_rfl)) rfl ?_
            case c1 => exact ((A5.set 0 (.int .i64 (x1 : Int))).set 1 (.int .i64 (x2 : Int))).set 2 (.slice la l.length lc)
            refine hG.out _ x1 x2 (.slice la l.length lc) l (((HP5.out.bel.setCell (p := ⟨w.heap.size, 0, none⟩) (Nat.le_refl _) _).setCell (p := ⟨w.heap.size, 1, none⟩) (Nat.le_refl _) _).setCell (p := ⟨w.heap.size, 2, none⟩) (Nat.le_refl _) _) ?_ HE.out hX2.out
            exact HP5.out.own.kept (grown_set (grown_set (grown_set (grown_refl _ _) _ _) _ _) _ _) (.inr (Ne.symm (own_ne HP5.out.own A5 (by decide))))
          · have HNO : Hid (∀ base next l, lerr base next l = 0 → stext base next l ≠ s) := Lib.hid (fun b n l' hg hs => by
              obtain ⟨_, rfl, rfl, rfl⟩ := HST.out b n l' hg hs
              exact hts (hX2.out.symm.trans hs))
            have h2 : (tx != s) = true := by simpa using hts
            have h3 : (tx == s) = false := by simpa using hts
            go_wp2_with fail
            refine bodyPost_ret (results_cell2 rfl _ _ w.heap.size 24 #[.int .i64 0, .int .i64 0, .slice none 0 0] (0, 0) _ _ rfl rfl ?c1 Try.underlying24 rfl (by kernel_rfl)) rfl ?_
            case c1 => exact ((A5.set 0 (.int .i64 0)).set 1 (.int .i64 0)).set 2 (.slice none 0 0)
            exact hB.out _ (((HP5.out.bel.setCell (p := ⟨w.heap.size, 0, none⟩) (Nat.le_refl _) _).setCell (p := ⟨w.heap.size, 1, none⟩) (Nat.le_refl _) _).setCell (p := ⟨w.heap.size, 2, none⟩) (Nat.le_refl _) _) (HNO.out)
        · have h2 : ((e : Int) != 0) = true := by simpa using h0
          have HNO : Hid (∀ base next l, lerr base next l = 0 → stext base next l ≠ s) := Lib.hid (fun b n l' hg hs => by
            obtain ⟨_, rfl, rfl, rfl⟩ := HST.out b n l' hg hs
            exact h0 (HE.out.symm.trans hg))
          clear h0 HX HE
          go_wp2_with fail
          refine bodyPost_ret (results_cell2 rfl _ _ w.heap.size 24 #[.int .i64 0, .int .i64 0, .slice none 0 0] (0, 0) _ _ rfl rfl ?c1 Try.underlying24 rfl (by kernel_rfl)) rfl ?_
          case c1 => exact ((A5.set 0 (.int .i64 0)).set 1 (.int .i64 0)).set 2 (.slice none 0 0)
          exact hB.out _ (((HP5.out.bel.setCell (p := ⟨w.heap.size, 0, none⟩) (Nat.le_refl _) _).setCell (p := ⟨w.heap.size, 1, none⟩) (Nat.le_refl _) _).setCell (p := ⟨w.heap.size, 2, none⟩) (Nat.le_refl _) _) (HNO.out)
      · have HNO : Hid (∀ base next l, lerr base next l = 0 → stext base next l ≠ s) := Lib.hid (fun b n l' hg hs => by
          have := (HST.out b n l' hg hs).1
          simp at this)
        clear hgo
        by_cases h1 : (l.length : Int) < (x3 : Int)
        · go_wp2_with fail
          refine CT.out.use ?_
          intro w5 hb5
          have P5 := HP.out.below hb5
          have A5 := P5.res
          have C5 := P5.sg
          have HP5 := Lib.hid P5
          clear CT HP hb5 P5 k0 y0 y1 y2 kr r0 r1 r2
          obtain ⟨k0, y0, y1, y2⟩ := C5.c3
          obtain ⟨kr, r0, r1, r2⟩ := Blk.c3 HP5.out.rd
          obtain ⟨kz, u0, u1, u2⟩ := A5.c3
          have fz : ∀ i, w5.frozen? ⟨w.heap.size, i, none⟩ = false := fun i => Blk.frozen A5 i
          go_wp2_with fail
          refine bodyPost_ret (results_cell2 rfl _ _ w.heap.size 24 #[.int .i64 0, .int .i64 0, .slice none 0 0] (0, 0) _ _ rfl rfl ?c1 Try.underlying24 rfl (by kernel_rfl)) rfl ?_
          case c1 => exact ((A5.set 0 (.int .i64 0)).set 1 (.int .i64 0)).set 2 (.slice none 0 0)
          exact hB.out _ (((HP5.out.bel.setCell (p := ⟨w.heap.size, 0, none⟩) (Nat.le_refl _) _).setCell (p := ⟨w.heap.size, 1, none⟩) (Nat.le_refl _) _).setCell (p := ⟨w.heap.size, 2, none⟩) (Nat.le_refl _) _) (HNO.out)
        · go_wp2_with fail
          refine CT.out.use ?_
          intro w5 hb5
          have P5 := HP.out.below hb5
          have A5 := P5.res
          have C5 := P5.sg
          have HP5 := Lib.hid P5
          clear CT HP hb5 P5 k0 y0 y1 y2 kr r0 r1 r2
          obtain ⟨k0, y0, y1, y2⟩ := C5.c3
          obtain ⟨kr, r0, r1, r2⟩ := Blk.c3 HP5.out.rd
          obtain ⟨kz, u0, u1, u2⟩ := A5.c3
          have fz : ∀ i, w5.frozen? ⟨w.heap.size, i, none⟩ = false := fun i => Blk.frozen A5 i
          go_wp2_with fail
          refine bodyPost_ret (results_cell2 rfl _ _ w.heap.size 24 #[.int .i64 0, .int .i64 0, .slice none 0 0] (0, 0) _ _ rfl rfl ?c1 Try.underlying24 rfl (by kernel_rfl)) rfl ?_
          case c1 => exact ((A5.set 0 (.int .i64 0)).set 1 (.int .i64 0)).set 2 (.slice none 0 0)
          exact hB.out _ (((HP5.out.bel.setCell (p := ⟨w.heap.size, 0, none⟩) (Nat.le_refl _) _).setCell (p := ⟨w.heap.size, 1, none⟩) (Nat.le_refl _) _).setCell (p := ⟨w.heap.size, 2, none⟩) (Nat.le_refl _) _) (HNO.out)
end Go.Proofs.Ytohplhahghilaaa
