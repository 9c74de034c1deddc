import Derived.Test.YthiliodmbipikaaGreatRecP1
import Derived.Test.YthiliodmbipikaaGreatVarX
import Derived.Deep.RegionHeld3
import Derived.Deep.QuietTactic
import Derived.BigQuiet
import Derived.Deep.AppendLies
import Derived.Deep.RegionLaw
/-
  Several texts in one: RecG, RecH, RecJ, RecK.
-/
set_option linter.unusedVariables false
set_option linter.unusedSimpArgs false
namespace Go.Proofs.YthiliodmbipikaaGreat
open Go.RowKit
attribute [local go_sem] ByteArray.extract_mk ByteArray.mk_append_mk

theorem Blk.dN {w : World} {b n : Nat} {cs : Array Value} {T : TypeId} (h : Blk w b cs T) : Blk (w.drewN n) b cs T := h
theorem grown_dN {a w : World} {n : Nat} {row : Option Nat} (h : a.grownBy w row) : a.grownBy (w.drewN n) row := ⟨h.os, h.tape, h.output, h.size, h.block⟩
/-- A reader: its bytes, where it stands, what is wrong. -/
def Rd (w : World) (b : Nat) (s : List UInt8) (at_ e : Int) : Prop := Blk w b #[.string (S s), .int .i64 at_, .int .i64 e] 128
/-- A reader's method: it hands v back, and the reader stands elsewhere; else just new blocks. -/
def RdCall (f : FuncId) (args : Array Value) (w : World) (b : Nat) (s : List UInt8) (v : Value) (at_ e : Int) : Prop :=
  Calls Tryz.prog f args w fun x w' => x = .returned v ∧ Rd w' b s at_ e ∧ w.grownBy w' (some b)
theorem RdCall.intro {f : FuncId} {args : Array Value} {w : World} {b : Nat} {s : List UInt8} {v : Value} {at_ e : Int}
    (h : ∀ R : Ending → World → Prop, Hid (∀ w', Rd w' b s at_ e → w.grownBy w' (some b) → R (.returned v) w') → Calls Tryz.prog f args w R) : RdCall f args w b s v at_ e := h _ fun _ h1 h2 => ⟨rfl, h1, h2⟩
theorem RdCall.use {f : FuncId} {args : Array Value} {w : World} {b : Nat} {s : List UInt8} {v : Value} {at_ e : Int} {R : Ending → World → Prop}
    (h : RdCall f args w b s v at_ e) (k : ∀ w', Rd w' b s at_ e → w.grownBy w' (some b) → R (.returned v) w') : Calls Tryz.prog f args w R := h.mono fun x w' ⟨he, h1, h2⟩ => by subst he; exact k _ h1 h2
theorem finR {w w' : World} {b : Nat} {s : List UInt8} {v v' : Value} {at_ e : Int} {R : Ending → World → Prop} (h : Hid (∀ w', Rd w' b s at_ e → w.grownBy w' (some b) → R (.returned v) w')) (h1 : Rd w' b s at_ e) (h2 : w.grownBy w' (some b)) (e1 : v' = v) : R (.returned v') w' := e1 ▸ h _ h1 h2

set_option maxRecDepth 100000 in
theorem rd_text (s : List UInt8) (at_ e most : Int) (has : Bool) (b : Nat) (w : World) (hr : Rd w b s at_ e) (hl : s.length ≤ maxLen) (hm : most ≤ 9223372036854775807) :
    RdCall 77 #[.pointer (some ⟨b, 0, none⟩), .bool has, .int .i64 most] w b s (.string (S (mtext s at_ e has most).1)) (mtext s at_ e has most).2.1 (mtext s at_ e has most).2.2 := by
  refine RdCall.intro fun R hR => ?_
  obtain ⟨hlt, c0, c1, c2⟩ := Blk.c3 hr
  unfold mtext at hR
  by_cases he : e = 0
  · subst he
    cases has
    · rw [if_neg (by simp)] at hR
      go_enter Tryz.func77, Tryz.ntmps77
      go_wp2
      exact finR hR hr (grown_refl _ _) rfl
    · rw [if_pos ⟨rfl, rfl⟩] at hR
      obtain ⟨t, to, e, hv⟩ : ∃ t to e, vtext s at_ most = (t, to, e) := ⟨_, _, _, rfl⟩
      have cG := fun w => vtext_eq hv w hl hm
      rw [hv] at hR
      clear hv hl hm
      have f1 : ∀ i, w.frozen? ⟨b, i, none⟩ = false := fun i => Blk.frozen hr i
      go_enter Tryz.func77, Tryz.ntmps77
      go_wp2_with fail
      go_region_held3 (fun w' => w'.cell? ⟨b, 0, none⟩ = some (.string (S s)) ∧ w'.cell? ⟨b, 1, none⟩ = some (.int .i64 at_) ∧ w'.cell? ⟨b, 2, none⟩ = some (.int .i64 0)) (go_keep) ((go_at_call 80; refine (cG _).use ?_))
      go_wp2
      exact finR hR ((Blk.set (Blk.set hr 1 _) 2 _)) (grown_drew (grown_set (grown_set (grown_refl _ _) _ _) _ _)) rfl
  · rw [if_neg (by simp [he])] at hR
    have h1 : ((e : Int) == 0) = false := by simpa using he
    have h2 : ((e : Int) != 0) = true := by simpa using he
    clear he
    go_enter Tryz.func77, Tryz.ntmps77
    go_wp2
    exact finR hR hr (grown_refl _ _) rfl

set_option maxRecDepth 100000 in
theorem rd_number (s : List UInt8) (at_ e : Int) (b : Nat) (w : World) (hr : Rd w b s at_ e) (hl : s.length ≤ maxLen) :
    RdCall 103 #[.pointer (some ⟨b, 0, none⟩)] w b s (.int .u64 (mnum s at_ e).1) (mnum s at_ e).2.1 (mnum s at_ e).2.2 := by
  refine RdCall.intro fun R hR => ?_
  obtain ⟨hlt, c0, c1, c2⟩ := Blk.c3 hr
  unfold mnum at hR
  by_cases he : e = 0
  · subst he
    rw [if_pos rfl] at hR
    obtain ⟨n, to, e, hv⟩ : ∃ n to e, vget s at_ = (n, to, e) := ⟨_, _, _, rfl⟩
    have cG := fun w => vget_eq hv w hl
    rw [hv] at hR
    clear hv hl
    have f1 : ∀ i, w.frozen? ⟨b, i, none⟩ = false := fun i => Blk.frozen hr i
    go_enter Tryz.func103, Tryz.ntmps103
    go_wp2_with fail
    go_region_held3 (fun w' => w'.cell? ⟨b, 0, none⟩ = some (.string (S s)) ∧ w'.cell? ⟨b, 1, none⟩ = some (.int .i64 at_) ∧ w'.cell? ⟨b, 2, none⟩ = some (.int .i64 0)) (go_keep) ((go_at_call 30; refine (cG _).use ?_))
    go_wp2
    exact finR hR ((Blk.set (Blk.set hr 1 _) 2 _)) (grown_drew (grown_set (grown_set (grown_refl _ _) _ _) _ _)) rfl
  · rw [if_neg he] at hR
    have h1 : ((e : Int) == 0) = false := by simpa using he
    have h2 : ((e : Int) != 0) = true := by simpa using he
    clear he
    go_enter Tryz.func103, Tryz.ntmps103
    go_wp2
    exact finR hR hr (grown_refl _ _) rfl

set_option maxHeartbeats 1000000 in
set_option maxRecDepth 100000 in
theorem rd_first (s : List UInt8) (at_ e : Int) (b : Nat) (w : World) (hr : Rd w b s at_ e) (hl : s.length ≤ maxLen) :
    RdCall 76 #[.pointer (some ⟨b, 0, none⟩)] w b s (.int .u8 (mfirst s at_ e).1) (mfirst s at_ e).2.1 (mfirst s at_ e).2.2 := by
  refine RdCall.intro fun R hR => ?_
  obtain ⟨hlt, c0, c1, c2⟩ := Blk.c3 hr
  have f1 : ∀ i, w.frozen? ⟨b, i, none⟩ = false := fun i => Blk.frozen hr i
  unfold maxLen at hl
  unfold mfirst at hR
  by_cases he : e = 0
  · subst he
    rw [if_neg (by simp)] at hR
    by_cases hp : 0 ≤ at_ ∧ at_ ≤ s.length
    · rw [if_neg (by simpa using hp)] at hR
      obtain ⟨h0, h1⟩ := hp
      obtain ⟨k, rfl⟩ := Int.eq_ofNat_of_zero_le h0
      rw [Int.toNat_natCast] at hR
      by_cases hk : k = s.length
      · rw [List.drop_eq_nil_of_le (by omega)] at hR
        have d1 : decide ((k : Int) < 0) = false := by simp
        have d2 : decide (s.length < k) = false := by simp; omega
        have d3 : ((k : Int) == (s.length : Int)) = true := by simp; omega
        clear hk h0 h1
        go_enter Tryz.func76, Tryz.ntmps76
        go_wp2
        go_quiet (fail)
        go_wp2
        go_quiet (fail)
        go_wp2
        exact finR hR (by repeat (first | exact hr | refine Blk.dN ?_ | exact Blk.set hr _ _ | exact Blk.set (Blk.dN hr) _ _ | exact Blk.set (Blk.dN (Blk.set (Blk.dN hr) _ _)) _ _ | exact Blk.set (Blk.set (Blk.dN hr) _ _) _ _)) (by repeat (first | exact grown_refl _ _ | refine grown_dN ?_ | refine grown_set ?_ _ _)) rfl
      · have hlt2 : k < s.length := by omega
        rw [List.drop_eq_getElem_cons hlt2] at hR
        simp only at hR
        have d1 : decide ((k : Int) < 0) = false := by simp
        have d2 : decide (s.length < k) = false := by simp; omega
        have d3 : ((k : Int) == (s.length : Int)) = false := by simp; omega
        have g1 : (k : Int) < (s.length : Int) := by omega
        obtain ⟨c, hc⟩ : ∃ c, ((S s)[k]'(by rw [S_size]; exact hlt2)).toNat = c := ⟨_, rfl⟩
        have hc' : (s[k]'hlt2).toNat = c := hc
        have hb : c < 256 := by rw [← hc]; exact UInt8.toNat_lt _
        rw [hc'] at hR
        clear hk h0 h1 hc'
        by_cases e0 : c = 0 ∨ c = 1 ∨ c = 3
        · rw [if_pos e0] at hR
          rcases e0 with rfl | rfl | rfl
          all_goals
            go_enter Tryz.func76, Tryz.ntmps76
            go_wp2
            go_quiet (fail)
            go_wp2
            go_quiet (fail)
            go_wp2
            go_quiet (fail)
            go_wp2
            exact finR hR (by repeat (first | exact hr | refine Blk.dN ?_ | exact Blk.set hr _ _ | exact Blk.set (Blk.dN hr) _ _ | exact Blk.set (Blk.dN (Blk.set (Blk.dN hr) _ _)) _ _ | exact Blk.set (Blk.set (Blk.dN hr) _ _) _ _)) (by repeat (first | exact grown_refl _ _ | refine grown_dN ?_ | refine grown_set ?_ _ _)) rfl
        · rw [if_neg e0] at hR
          have x0 : ((c : Int) == 0) = false := by simp; omega
          have x1 : ((c : Int) == 1) = false := by simp; omega
          have x3 : ((c : Int) == 3) = false := by simp; omega
          have y0 : ((c : Int) != 0) = true := by simp; omega
          have y1 : ((c : Int) != 1) = true := by simp; omega
          have y3 : ((c : Int) != 3) = true := by simp; omega
          clear e0
          go_enter Tryz.func76, Tryz.ntmps76
          go_wp2
          go_quiet (fail)
          go_wp2
          go_quiet (fail)
          go_wp2
          go_quiet (fail)
          go_wp2
          exact finR hR (by repeat (first | exact hr | refine Blk.dN ?_ | exact Blk.set hr _ _ | exact Blk.set (Blk.dN hr) _ _ | exact Blk.set (Blk.dN (Blk.set (Blk.dN hr) _ _)) _ _ | exact Blk.set (Blk.set (Blk.dN hr) _ _) _ _)) (by repeat (first | exact grown_refl _ _ | refine grown_dN ?_ | refine grown_set ?_ _ _)) rfl
    · rw [if_pos hp] at hR
      by_cases h0 : at_ < 0
      · have d1 : decide (at_ < 0) = true := by simpa using h0
        clear hp
        go_enter Tryz.func76, Tryz.ntmps76
        go_wp2_with fail
        go_quiet (fail)
        go_wp2
        exact finR hR (by repeat (first | exact hr | refine Blk.dN ?_ | exact Blk.set hr _ _ | exact Blk.set (Blk.dN hr) _ _ | exact Blk.set (Blk.dN (Blk.set (Blk.dN hr) _ _)) _ _ | exact Blk.set (Blk.set (Blk.dN hr) _ _) _ _)) (by repeat (first | exact grown_refl _ _ | refine grown_dN ?_ | refine grown_set ?_ _ _)) rfl
      · have h1 : (s.length : Int) < at_ := by omega
        have d1 : decide (at_ < 0) = false := by simpa using h0
        clear hp
        go_enter Tryz.func76, Tryz.ntmps76
        go_wp2_with fail
        go_quiet (fail)
        go_wp2
        exact finR hR (by repeat (first | exact hr | refine Blk.dN ?_ | exact Blk.set hr _ _ | exact Blk.set (Blk.dN hr) _ _ | exact Blk.set (Blk.dN (Blk.set (Blk.dN hr) _ _)) _ _ | exact Blk.set (Blk.set (Blk.dN hr) _ _) _ _)) (by repeat (first | exact grown_refl _ _ | refine grown_dN ?_ | refine grown_set ?_ _ _)) rfl
  · rw [if_pos he] at hR
    have h1 : ((e : Int) == 0) = false := by simpa using he
    have h2 : ((e : Int) != 0) = true := by simpa using he
    clear he
    go_enter Tryz.func76, Tryz.ntmps76
    go_wp2
    exact finR hR hr (grown_refl _ _) rfl
end Go.Proofs.YthiliodmbipikaaGreat

set_option linter.unusedVariables false
set_option linter.unusedSimpArgs false
namespace Go.Proofs.YthiliodmbipikaaGreat
open Go.RowKit
attribute [local go_sem] ByteArray.extract_mk ByteArray.mk_append_mk

theorem grown_own {a w : World} {row : Option Nat} (h : a.grownBy w row) {c : Nat} (hc : a.heap.size ≤ c) (i : Nat) (v : Value) : a.grownBy (w.setCell ⟨c, i, none⟩ v) row :=
  ⟨h.os, h.tape, h.output, by have := h.size; simpa [World.setCell] using this, fun k hk hne => (heap_setCell_other _ _ _ _ (by simp; omega)).trans (h.block k hk hne)⟩
set_option maxHeartbeats 1000000 in
set_option maxRecDepth 100000 in
theorem rd_record (s : List UInt8) (at_ e : Int) (b : Nat) (w : World) (hr : Rd w b s at_ e) (hl : s.length ≤ maxLen) :
    RdCall 66 #[.pointer (some ⟨b, 0, none⟩)] w b s (.agg #[.bool (mrec s at_ e).1.hk, .string (S (mrec s at_ e).1.key), .bool (mrec s at_ e).1.tb, .string (S (mrec s at_ e).1.val)]) (mrec s at_ e).2.1 (mrec s at_ e).2.2 := by
  refine RdCall.intro fun R hR => ?_
  obtain ⟨c, a1, e1, h1⟩ : ∃ c a1 e1, mfirst s at_ e = (c, a1, e1) := ⟨_, _, _, rfl⟩
  obtain ⟨hk, hh⟩ : ∃ hk, decide (c % 2 = 1) = hk := ⟨_, rfl⟩
  obtain ⟨tb, ht⟩ : ∃ tb, decide (c / 2 % 2 = 1) = tb := ⟨_, rfl⟩
  obtain ⟨k, a2, e2, h2⟩ : ∃ k a2 e2, mtext s a1 e1 hk 64 = (k, a2, e2) := ⟨_, _, _, rfl⟩
  obtain ⟨v, a3, e3, h3⟩ : ∃ v a3 e3, mtext s a2 e2 (!tb) 512 = (v, a3, e3) := ⟨_, _, _, rfl⟩
  rw [mrec_eq h1 hh ht h2 h3] at hR
  simp only at hR
  have hc := mfirst_bd s at_ e
  have c1 := fun w (hr : Rd w b s at_ e) => rd_first s at_ e b w hr hl
  rw [h1] at c1 hc
  have c2 := fun w (hr : Rd w b s a1 e1) => rd_text s a1 e1 64 hk b w hr hl (by decide)
  rw [h2] at c2
  have c3 := fun w (hr : Rd w b s a2 e2) => rd_text s a2 e2 512 (!tb) b w hr hl (by decide)
  rw [h3] at c3
  simp only at c1 c2 c3 hc
  obtain ⟨b1, b2⟩ := and_bits c hc
  rw [hh] at b1
  rw [ht] at b2
  clear h1 h2 h3 hh ht hl
  have hlt : b < w.heap.size := Blk.lt hr
  have C1 := Lib.hid c1
  have C2 := Lib.hid c2
  have C3 := Lib.hid c3
  clear c1 c2 c3
  go_enter Tryz.func66, Tryz.ntmps66
  go_wp2_with fail
  refine (C1.out _ (Blk.alloc hr _)).use ?_
  intro w1 r1 g1
  have z1 : w.heap.size + 1 ≤ w1.heap.size := by have := g1.size; simpa using this
  have n1 : some w.heap.size ≠ some b := by simp; omega
  have n2 : some w1.heap.size ≠ some b := by simp; omega
  have A1 := (Blk.new w _ _).grown g1 n1
  go_wp2_with fail
  refine (C2.out _ (Blk.alloc r1 _)).use ?_
  intro w2 r2 g2
  have z2 : w1.heap.size + 1 ≤ w2.heap.size := by have := g2.size; simpa using this
  have A2 := (A1.alloc _).grown g2 n1
  have X2 := (Blk.new w1 _ _).grown g2 n2
  obtain ⟨y0, y1, y2, y3, y4⟩ := X2.c4
  have f2 := fun i => Blk.frozen X2 i
  go_wp2_with fail
  refine (C3.out _ (Blk.setOther r2 (by simp; omega) _)).use ?_
  intro w3 r3 g3
  have z3 : w2.heap.size ≤ w3.heap.size := by have := g3.size; simpa [World.setCell] using this
  have A3 := (A2.setOther (by simp; omega) _).grown g3 n1
  have X3 := (X2.set 1 (.string (S k))).grown g3 n2
  obtain ⟨u0, u1, u2, u3, u4⟩ := Blk.c4 (show Blk w3 w1.heap.size #[.bool hk, .string (S k), .bool tb, .string (S [])] 35 from X3)
  have f3 := fun i => Blk.frozen X3 i
  obtain ⟨t0, t1, t2, t3, t4⟩ := A3.c4
  have f4 := fun i => Blk.frozen A3 i
  go_wp2_with fail
  have A4 := ((((A3.setOther (a := ⟨w1.heap.size, 3, none⟩) (by simp; omega) (.string (S v))).set 0 (.bool hk)).set 1 (.string (S k))).set 2 (.bool tb)).set 3 (.string (S v))
  refine bodyPost_ret (results_cell_row rfl _ _ w.heap.size 35 _ (0, 0) _ rfl A4 Tryz.underlying35 rfl (by kernel_rfl)) rfl ?_
  have G1 : w.grownBy w1 (some b) := (World.grownBy_alloc w _ _).trans g1
  have G2 : w.grownBy w2 (some b) := (grown_alloc G1 _).trans g2
  have G3 : w.grownBy w3 (some b) := (grown_own G2 (by omega) _ _).trans g3
  exact finR hR ((((((Blk.setOther r3 (by simp; omega) _).setOther (by simp; omega) _).setOther (by simp; omega) _).setOther (by simp; omega) _).setOther (by simp; omega) _)) (grown_own (grown_own (grown_own (grown_own (grown_own G3 (by omega) _ _) (Nat.le_refl _) _ _) (Nat.le_refl _) _ _) (Nat.le_refl _) _ _) (Nat.le_refl _) _ _) rfl

theorem results_cell3 {P : Program} {fn : Func} {p u1 u2 : Tmp} {ty : TypeId} (h : fn.results = #[.cell p ty, .tmp u1, .tmp u2]) (tmps : Array Value) (w : World) (g : Nat) (t : TypeId) (cs : Array Value) (fr : Nat × Nat) (d : TypeDesc) (x1 x2 : Value)
    (hp : tmps.getD p undef = .pointer (some ⟨g, 0, none⟩)) (h1 : tmps.getD u1 undef = x1) (h2 : tmps.getD u2 undef = x2) (hg : w.heap[g]? = some (.cells cs t fr))
    (hu : P.underlying ty = some d) (hd : (match d with | .struct _ | .array _ _ => true | _ => false) = true) (hi : (P.info? ty).map (·.size) = some cs.size) :
    (results fn tmps).run P w = .ok (.tuple #[.agg cs, x1, x2]) w := by
  have hp' : tmps[p]?.getD undef = .pointer (some ⟨g, 0, none⟩) := by simpa using hp
  have h1' : tmps[u1]?.getD undef = x1 := by simpa using h1
  have h2' : tmps[u2]?.getD undef = x2 := by simpa using h2
  simp [results, h, hp', h1', h2', asAddr, run_loadVar_row w g t ty cs fr d hg hu hd hi]

/-- A record is got. -/
theorem get3_any (s : List UInt8) (at_ : Int) (w : World) (hl : s.length ≤ maxLen) :
    RetB Tryz.prog 40 #[.string (S s), .int .i64 at_] w (.tuple #[.agg #[.bool (mget s at_).1.hk, .string (S (mget s at_).1.key), .bool (mget s at_).1.tb, .string (S (mget s at_).1.val)], .int .i64 (mget s at_).2.1, .int .i64 (mget s at_).2.2]) := by
  refine RetB.intro fun R hR => ?_
  have cR := fun b w (hr : Rd w b s at_ 0) => rd_record s at_ 0 b w hr hl
  unfold mget at hR
  generalize mrec s at_ 0 = m at *
  obtain ⟨⟨hk, k, tb, v⟩, to, e⟩ := m
  simp only at cR hR
  have CR := Lib.hid cR
  clear cR
  by_cases he : e = 0
  · subst he
    rw [if_pos rfl] at hR
    go_enter Tryz.func40, Tryz.ntmps40
    go_wp2_with fail
    refine (CR.out (w.heap.size + 1) _ (by have h := Blk.new (w.alloc (.cells #[.bool false, .string (S []), .bool false, .string (S [])] 35)) #[.string (S s), .int .i64 at_, .int .i64 0] 128; rw [World.size_alloc] at h; exact h)).use ?_
    intro w1 r1 g1
    have z1 : w.heap.size + 2 ≤ w1.heap.size := by have := g1.size; simpa using this
    have A1 := ((Blk.new w _ _).alloc _).grown g1 (by simp)
    obtain ⟨t0, t1, t2, t3, t4⟩ := A1.c4
    have f1 := fun i => Blk.frozen A1 i
    obtain ⟨q0, q1, q2, q3⟩ := Blk.c3 r1
    have n1 : w.heap.size ≠ w1.heap.size := by omega
    have n2 : w.heap.size + 1 ≠ w1.heap.size := by omega
    have n3 : w.heap.size < w1.heap.size := by omega
    have n4 : w.heap.size + 1 < w1.heap.size := by omega
    have G1 : Below w.heap.size w w1 := below_own (below_all (below_all (Below.refl _ _))) (by omega) (by simp; omega) g1
    go_wp2_with (fail)
    have X1 := Blk.new w1 #[.bool hk, .string (S k), .bool tb, .string (S v)] 35
    have A2 := A1.alloc (.cells #[.bool hk, .string (S k), .bool tb, .string (S v)] 35)
    have R2 := Blk.alloc r1 (.cells #[.bool hk, .string (S k), .bool tb, .string (S v)] 35)
    have G2 := below_all (o := .cells #[.bool hk, .string (S k), .bool tb, .string (S v)] 35) G1
    have FM := Lib.hid f1
    clear t1 t2 t3 t4 f1 q1 q2 q3
    generalize w1.alloc (.cells #[.bool hk, .string (S k), .bool tb, .string (S v)] 35) = W1 at X1 A2 R2 G2 ⊢
    obtain ⟨t0, t1, t2, t3, t4⟩ := A2.c4
    have f1 := fun i => Blk.frozen A2 i
    obtain ⟨q0, q1, q2, q3⟩ := Blk.c3 R2
    obtain ⟨x0, x1, x2, x3, x4⟩ := X1.c4
    go_region_held3 (fun w' => w'.cell? ⟨w1.heap.size, 0, none⟩ = some (.bool hk) ∧ w'.cell? ⟨w1.heap.size, 1, none⟩ = some (.string (S k)) ∧ w'.cell? ⟨w1.heap.size, 2, none⟩ = some (.bool tb) ∧ w'.cell? ⟨w1.heap.size, 3, none⟩ = some (.string (S v)) ∧ w'.cell? ⟨w.heap.size + 1, 1, none⟩ = some (.int .i64 to)) (go_keep) (fail)
    go_wp2
    have A4 := (((A2.set 0 (.bool hk)).set 1 (.string (S k))).set 2 (.bool tb)).set 3 (.string (S v))
    refine bodyPost_ret (results_cell3 rfl _ _ w.heap.size 35 #[.bool hk, .string (S k), .bool tb, .string (S v)] (0, 0) _ _ _ rfl rfl rfl A4.drew Tryz.underlying35 rfl (by kernel_rfl)) rfl ?_
    exact finB hR ((((G2.setCell (p := ⟨w.heap.size, 0, none⟩) (Nat.le_refl _) _).setCell (p := ⟨w.heap.size, 1, none⟩) (Nat.le_refl _) _).setCell (p := ⟨w.heap.size, 2, none⟩) (Nat.le_refl _) _).setCell (p := ⟨w.heap.size, 3, none⟩) (Nat.le_refl _) _).drew rfl
  · rw [if_neg he] at hR
    have h1 : ((e : Int) == 0) = false := by simpa using he
    have h2 : ((e : Int) != 0) = true := by simpa using he
    clear he
    go_enter Tryz.func40, Tryz.ntmps40
    go_wp2_with fail
    refine (CR.out (w.heap.size + 1) _ (by have h := Blk.new (w.alloc (.cells #[.bool false, .string (S []), .bool false, .string (S [])] 35)) #[.string (S s), .int .i64 at_, .int .i64 0] 128; rw [World.size_alloc] at h; exact h)).use ?_
    intro w1 r1 g1
    have z1 : w.heap.size + 2 ≤ w1.heap.size := by have := g1.size; simpa using this
    have A1 := ((Blk.new w _ _).alloc _).grown g1 (by simp)
    obtain ⟨t0, t1, t2, t3, t4⟩ := A1.c4
    have f1 := fun i => Blk.frozen A1 i
    obtain ⟨q0, q1, q2, q3⟩ := Blk.c3 r1
    have n1 : w.heap.size ≠ w1.heap.size := by omega
    have n2 : w.heap.size + 1 ≠ w1.heap.size := by omega
    have n3 : w.heap.size < w1.heap.size := by omega
    have n4 : w.heap.size + 1 < w1.heap.size := by omega
    have G1 : Below w.heap.size w w1 := below_own (below_all (below_all (Below.refl _ _))) (by omega) (by simp; omega) g1
    go_wp2_with (fail)
    have X1 := Blk.new w1 #[.bool hk, .string (S k), .bool tb, .string (S v)] 35
    have A2 := A1.alloc (.cells #[.bool hk, .string (S k), .bool tb, .string (S v)] 35)
    have R2 := Blk.alloc r1 (.cells #[.bool hk, .string (S k), .bool tb, .string (S v)] 35)
    have G2 := below_all (o := .cells #[.bool hk, .string (S k), .bool tb, .string (S v)] 35) G1
    have FM := Lib.hid f1
    clear t1 t2 t3 t4 f1 q1 q2 q3
    generalize w1.alloc (.cells #[.bool hk, .string (S k), .bool tb, .string (S v)] 35) = W1 at X1 A2 R2 G2 ⊢
    obtain ⟨t0, t1, t2, t3, t4⟩ := A2.c4
    have f1 := fun i => Blk.frozen A2 i
    obtain ⟨q0, q1, q2, q3⟩ := Blk.c3 R2
    obtain ⟨x0, x1, x2, x3, x4⟩ := X1.c4
    go_region_held3 (fun w' => w'.cell? ⟨w.heap.size + 1, 2, none⟩ = some (.int .i64 e)) (go_keep) (fail)
    go_wp2
    have A4 := (((A2.set 0 (.bool false)).set 1 (.string (S []))).set 2 (.bool false)).set 3 (.string (S []))
    refine bodyPost_ret (results_cell3 rfl _ _ w.heap.size 35 #[.bool false, .string (S []), .bool false, .string (S [])] (0, 0) _ _ _ rfl rfl rfl A4.drew Tryz.underlying35 rfl (by kernel_rfl)) rfl ?_
    exact finB hR ((((G2.setCell (p := ⟨w.heap.size, 0, none⟩) (Nat.le_refl _) _).setCell (p := ⟨w.heap.size, 1, none⟩) (Nat.le_refl _) _).setCell (p := ⟨w.heap.size, 2, none⟩) (Nat.le_refl _) _).setCell (p := ⟨w.heap.size, 3, none⟩) (Nat.le_refl _) _).drew rfl
end Go.Proofs.YthiliodmbipikaaGreat

set_option linter.unusedVariables false
set_option linter.unusedSimpArgs false
namespace Go.Proofs.YthiliodmbipikaaGreat
open Go.RowKit
attribute [local go_sem] ByteArray.extract_mk ByteArray.mk_append_mk

def natCells (l : List Nat) : Array Value := (l.map fun n => Value.int .i64 (n : Nat)).toArray
theorem natCells_set (l : List Nat) (k n : Nat) : (natCells l).setIfInBounds k (.int .i64 (n : Nat)) = natCells (l.set k n) := by
  unfold natCells; simp [List.map_set]

set_option maxHeartbeats 2000000 in
set_option maxRecDepth 100000 in
theorem rd_numbers (s : List UInt8) (at_ : Int) (b : Nat) (w : World) (hr : Rd w b s at_ 0) (hl : s.length ≤ maxLen) :
    RdCall 102 #[.pointer (some ⟨b, 0, none⟩)] w b s (.agg (natCells (nst s at_ 4).2.2.2)) (nst s at_ 4).1 (nerr (nst s at_ 4)) := by
  refine RdCall.intro fun R hR => ?_
  have hlt : b < w.heap.size := Blk.lt hr
  have cN := fun a e w (hr : Rd w b s a e) => rd_number s a e b w hr hl
  have CN := Lib.hid cN
  have HR := Lib.hid hr
  clear cN hl hr
  go_enter Tryz.func102, Tryz.ntmps102
  go_wp2_with fail
  go_loopw [4, 5, 6, 7] (fun (v4 v5 v6 v7 : Value) (W : World) => ∃ k : Nat, k ≤ 4 ∧ v7 = .int .i64 (k : Int) ∧ v4 = .bool (nst s at_ k).2.2.1 ∧ Rd W b s (nst s at_ k).1 (nst s at_ k).2.1 ∧ Blk W (w.heap.size + 1) (natCells (nst s at_ k).2.2.2) 156 ∧ Blk W w.heap.size #[.int .i64 0, .int .i64 0, .int .i64 0, .int .i64 0] 156 ∧ w.grownBy W (some b)) (fun (v4 v5 v6 v7 : Value) (W : World) => (4 - intOf v7).toNat)
  case atStart =>
    refine ⟨0, by omega, rfl, rfl, Blk.alloc (Blk.alloc HR.out _) _, ?_, (Blk.new w _ _).alloc _, grown_alloc (grown_alloc (grown_refl _ _) _) _⟩
    have h := Blk.new (w.alloc (.cells #[.int .i64 0, .int .i64 0, .int .i64 0, .int .i64 0] 156)) #[.int .i64 0, .int .i64 0, .int .i64 0, .int .i64 0] 156
    rw [World.size_alloc] at h
    exact h
  case round =>
    obtain ⟨k, hk, rfl, rfl, r1, A1, A0, g1⟩ := hrel
    have hll := nst_len s at_ k
    by_cases hk4 : k < 4
    · have hnx : nst s at_ (k + 1) = _ := nst.eq_2 s at_ k
      obtain ⟨⟨a, e, bg, l⟩, hp⟩ : ∃ p, nst s at_ k = p := ⟨_, rfl⟩
      rw [hp] at r1 A1 hll hnx ⊢
      simp only at r1 A1 hll hnx ⊢
      obtain ⟨⟨n, a2, e2⟩, hm⟩ : ∃ m, mnum s a e = m := ⟨_, rfl⟩
      have cN := fun w => CN.out a e w
      rw [hm] at cN hnx
      simp only at cN hnx
      have CN2 := Lib.hid cN
      have HNX := Lib.hid hnx
      clear cN hm hp hnx
      have hb0 : b < wr.heap.size := Blk.lt r1
      have hkl : k < l.length := by omega
      have n1 : some (w.heap.size + 1) ≠ some b := by simp; omega
      have n0 : some w.heap.size ≠ some b := by simp; omega
      have hend : ∀ (W : World) (u : Bool) (z : Nat), u = (bg || (decide (k < 3) && decide (1099511627776 < n))) → z = min n 1099511627776 → Rd W b s a2 e2 → Blk W (w.heap.size + 1) (natCells (l.set k z)) 156 → Blk W w.heap.size #[.int .i64 0, .int .i64 0, .int .i64 0, .int .i64 0] 156 → w.grownBy W (some b) →
          ∃ k' : Nat, k' ≤ 4 ∧ Value.int .i64 ((k : Int) + 1) = .int .i64 (k' : Int) ∧ Value.bool u = .bool (nst s at_ k').2.2.1 ∧ Rd W b s (nst s at_ k').1 (nst s at_ k').2.1 ∧ Blk W (w.heap.size + 1) (natCells (nst s at_ k').2.2.2) 156 ∧ Blk W w.heap.size #[.int .i64 0, .int .i64 0, .int .i64 0, .int .i64 0] 156 ∧ w.grownBy W (some b) := by
        intro W u z hu hz q1 q2 q3 q4
        refine ⟨k + 1, by omega, by go_num, ?_⟩
        rw [HNX.out, ← hu, ← hz]
        exact ⟨rfl, q1, q2, q3, q4⟩
      have HE := Lib.hid hend
      clear hend HNX hll
      by_cases hn : 1099511627776 < n
      · have q1 : (1099511627776 : Int) < n := by omega
        have q2 : min (n : Int) 1099511627776 = 1099511627776 := by omega
        cases bg
        · by_cases hk3 : k < 3
          · have q4 : (k : Int) < 3 := by omega
            go_wp2_with fail
            refine (CN2.out _ r1).use ?_
            intro w2 r2 g2
            have A2 := A1.grown g2 n1
            have A02 := A0.grown g2 n0
            have ck := A2.cell k
            have ck2 : (natCells l)[k]? = some (.int .i64 (l[k] : Nat)) := by unfold natCells; simp [hkl]
            rw [ck2] at ck
            have fk := Blk.frozen A2 k
            have lt2 := Blk.lt A2
            go_wp2_with fail
            go_roundw
            case rel => exact HE.out _ _ 1099511627776 (by simp [hk3, hn] <;> omega) (by omega) (Blk.setOther r2 (by simp; omega) _) (natCells_set l k 1099511627776 ▸ A2.set k _) (A02.setOther (by simp) _) (grown_own (g1.trans g2) (by omega) _ _)
            case measure => simp [intOf]; omega
          · have q4 : ¬ (k : Int) < 3 := by omega
            go_wp2_with fail
            refine (CN2.out _ r1).use ?_
            intro w2 r2 g2
            have A2 := A1.grown g2 n1
            have A02 := A0.grown g2 n0
            have ck := A2.cell k
            have ck2 : (natCells l)[k]? = some (.int .i64 (l[k] : Nat)) := by unfold natCells; simp [hkl]
            rw [ck2] at ck
            have fk := Blk.frozen A2 k
            have lt2 := Blk.lt A2
            go_wp2_with fail
            go_roundw
            case rel => exact HE.out _ _ 1099511627776 (by simp [hk3]) (by omega) (Blk.setOther r2 (by simp; omega) _) (natCells_set l k 1099511627776 ▸ A2.set k _) (A02.setOther (by simp) _) (grown_own (g1.trans g2) (by omega) _ _)
            case measure => simp [intOf]; omega
        · go_wp2_with fail
          refine (CN2.out _ r1).use ?_
          intro w2 r2 g2
          have A2 := A1.grown g2 n1
          have A02 := A0.grown g2 n0
          have ck := A2.cell k
          have ck2 : (natCells l)[k]? = some (.int .i64 (l[k] : Nat)) := by unfold natCells; simp [hkl]
          rw [ck2] at ck
          have fk := Blk.frozen A2 k
          have lt2 := Blk.lt A2
          go_wp2_with fail
          go_roundw
          case rel => exact HE.out _ _ 1099511627776 (by simp) (by omega) (Blk.setOther r2 (by simp; omega) _) (natCells_set l k 1099511627776 ▸ A2.set k _) (A02.setOther (by simp) _) (grown_own (g1.trans g2) (by omega) _ _)
          case measure => simp [intOf]; omega
      · have q1 : (n : Int) ≤ 1099511627776 := by omega
        have q2 : min (n : Int) 1099511627776 = n := by omega
        cases bg
        · by_cases hk3 : k < 3
          · have q4 : (k : Int) < 3 := by omega
            go_wp2_with fail
            refine (CN2.out _ r1).use ?_
            intro w2 r2 g2
            have A2 := A1.grown g2 n1
            have A02 := A0.grown g2 n0
            have ck := A2.cell k
            have ck2 : (natCells l)[k]? = some (.int .i64 (l[k] : Nat)) := by unfold natCells; simp [hkl]
            rw [ck2] at ck
            have fk := Blk.frozen A2 k
            have lt2 := Blk.lt A2
            go_wp2_with fail
            go_roundw
            case rel => exact HE.out _ _ n (by simp [hk3, hn] <;> omega) (by omega) (Blk.setOther r2 (by simp; omega) _) (natCells_set l k n ▸ A2.set k _) (A02.setOther (by simp) _) (grown_own (g1.trans g2) (by omega) _ _)
            case measure => simp [intOf]; omega
          · have q4 : ¬ (k : Int) < 3 := by omega
            go_wp2_with fail
            refine (CN2.out _ r1).use ?_
            intro w2 r2 g2
            have A2 := A1.grown g2 n1
            have A02 := A0.grown g2 n0
            have ck := A2.cell k
            have ck2 : (natCells l)[k]? = some (.int .i64 (l[k] : Nat)) := by unfold natCells; simp [hkl]
            rw [ck2] at ck
            have fk := Blk.frozen A2 k
            have lt2 := Blk.lt A2
            go_wp2_with fail
            go_roundw
            case rel => exact HE.out _ _ n (by simp [hk3]) (by omega) (Blk.setOther r2 (by simp; omega) _) (natCells_set l k n ▸ A2.set k _) (A02.setOther (by simp) _) (grown_own (g1.trans g2) (by omega) _ _)
            case measure => simp [intOf]; omega
        · go_wp2_with fail
          refine (CN2.out _ r1).use ?_
          intro w2 r2 g2
          have A2 := A1.grown g2 n1
          have A02 := A0.grown g2 n0
          have ck := A2.cell k
          have ck2 : (natCells l)[k]? = some (.int .i64 (l[k] : Nat)) := by unfold natCells; simp [hkl]
          rw [ck2] at ck
          have fk := Blk.frozen A2 k
          have lt2 := Blk.lt A2
          go_wp2_with fail
          go_roundw
          case rel => exact HE.out _ _ n (by simp) (by omega) (Blk.setOther r2 (by simp; omega) _) (natCells_set l k n ▸ A2.set k _) (A02.setOther (by simp) _) (grown_own (g1.trans g2) (by omega) _ _)
          case measure => simp [intOf]; omega
    · have hk6 : k = 4 := by omega
      have hk5 : (k : Int) = 4 := by omega
      rw [hk6] at r1 A1 hll
      obtain ⟨⟨a, e, bg, l⟩, hp⟩ : ∃ p, nst s at_ 4 = p := ⟨_, rfl⟩
      have hb5 : (nst s at_ k).2.2.1 = bg := by rw [hk6, hp]
      rw [hp] at r1 A1 hll hR
      rw [hb5]
      simp only at r1 A1 hll hR
      match l, hll with
      | [x0, x1, x2, x3], _ =>
        unfold nerr at hR
        simp only [List.getD_eq_getElem?_getD, List.getElem?_cons_succ, List.getElem?_cons_zero, Option.getD_some] at hR
        have A1 : Blk wr (w.heap.size + 1) #[.int .i64 x0, .int .i64 x1, .int .i64 x2, .int .i64 x3] 156 := A1
        obtain ⟨lt1, c0, c1, c2, c3⟩ := A1.c4
        obtain ⟨lt0, y0, y1, y2, y3⟩ := A0.c4
        have f0 := fun i => Blk.frozen A0 i
        obtain ⟨ltb, rr0, rr1, rr2⟩ := Blk.c3 r1
        have fb := fun i => Blk.frozen r1 i
        have nb1 : b ≠ w.heap.size := by omega
        have nb2 : b ≠ w.heap.size + 1 := by omega
        clear hp hb5 hk6
        by_cases he : e = 0
        · subst he
          rw [if_neg (by simp)] at hR
          cases bg
          · rw [if_neg (by simp)] at hR
            by_cases h3 : x3 = 0
            · rw [if_pos h3] at hR
              have q : ((x3 : Int) == 0) = true := by simp [h3]
              clear h3
              go_wp2_with fail
              have A4 := ((((A0.setOther (a := ⟨b, 2, none⟩) (by simp; omega) (.int .i64 30)).set 0 (.int .i64 x0)).set 1 (.int .i64 x1)).set 2 (.int .i64 x2)).set 3 (.int .i64 x3)
              refine bodyPost_ret (results_cell_row rfl _ _ w.heap.size 156 #[.int .i64 x0, .int .i64 x1, .int .i64 x2, .int .i64 x3] (0, 0) (.array 4 3) rfl A4 Tryz.underlying156 rfl (by kernel_rfl)) rfl ?_
              exact finR hR (((((Blk.set r1 2 (.int .i64 30) : Blk _ b _ _).setOther (by simp; omega) _).setOther (by simp; omega) _).setOther (by simp; omega) _).setOther (by simp; omega) _) (grown_own (grown_own (grown_own (grown_own (grown_set g1 _ _) (Nat.le_refl _) _ _) (Nat.le_refl _) _ _) (Nat.le_refl _) _ _) (Nat.le_refl _) _ _) rfl
            · rw [if_neg h3] at hR
              have q : ((x3 : Int) == 0) = false := by simp [h3]
              clear h3
              by_cases h4 : 16 < x3
              · rw [if_pos h4] at hR
                have h5 : (16 : Int) < x3 := by omega
                go_wp2_with fail
                have A4 := ((((A0.setOther (a := ⟨b, 2, none⟩) (by simp; omega) (.int .i64 2)).set 0 (.int .i64 x0)).set 1 (.int .i64 x1)).set 2 (.int .i64 x2)).set 3 (.int .i64 x3)
                refine bodyPost_ret (results_cell_row rfl _ _ w.heap.size 156 #[.int .i64 x0, .int .i64 x1, .int .i64 x2, .int .i64 x3] (0, 0) (.array 4 3) rfl A4 Tryz.underlying156 rfl (by kernel_rfl)) rfl ?_
                exact finR hR (((((Blk.set r1 2 (.int .i64 2) : Blk _ b _ _).setOther (by simp; omega) _).setOther (by simp; omega) _).setOther (by simp; omega) _).setOther (by simp; omega) _) (grown_own (grown_own (grown_own (grown_own (grown_set g1 _ _) (Nat.le_refl _) _ _) (Nat.le_refl _) _ _) (Nat.le_refl _) _ _) (Nat.le_refl _) _ _) rfl
              · rw [if_neg h4] at hR
                have h5 : (x3 : Int) ≤ 16 := by omega
                go_wp2_with fail
                have A4 := ((((A0).set 0 (.int .i64 x0)).set 1 (.int .i64 x1)).set 2 (.int .i64 x2)).set 3 (.int .i64 x3)
                refine bodyPost_ret (results_cell_row rfl _ _ w.heap.size 156 #[.int .i64 x0, .int .i64 x1, .int .i64 x2, .int .i64 x3] (0, 0) (.array 4 3) rfl A4 Tryz.underlying156 rfl (by kernel_rfl)) rfl ?_
                exact finR hR (((((r1 : Blk _ b _ _).setOther (by simp; omega) _).setOther (by simp; omega) _).setOther (by simp; omega) _).setOther (by simp; omega) _) (grown_own (grown_own (grown_own (grown_own g1 (Nat.le_refl _) _ _) (Nat.le_refl _) _ _) (Nat.le_refl _) _ _) (Nat.le_refl _) _ _) rfl
          · rw [if_pos rfl] at hR
            go_wp2_with fail
            have A4 := ((((A0.setOther (a := ⟨b, 2, none⟩) (by simp; omega) (.int .i64 1)).set 0 (.int .i64 x0)).set 1 (.int .i64 x1)).set 2 (.int .i64 x2)).set 3 (.int .i64 x3)
            refine bodyPost_ret (results_cell_row rfl _ _ w.heap.size 156 #[.int .i64 x0, .int .i64 x1, .int .i64 x2, .int .i64 x3] (0, 0) (.array 4 3) rfl A4 Tryz.underlying156 rfl (by kernel_rfl)) rfl ?_
            exact finR hR (((((Blk.set r1 2 (.int .i64 1) : Blk _ b _ _).setOther (by simp; omega) _).setOther (by simp; omega) _).setOther (by simp; omega) _).setOther (by simp; omega) _) (grown_own (grown_own (grown_own (grown_own (grown_set g1 _ _) (Nat.le_refl _) _ _) (Nat.le_refl _) _ _) (Nat.le_refl _) _ _) (Nat.le_refl _) _ _) rfl
        · rw [if_pos he] at hR
          have q1 : ((e : Int) == 0) = false := by simpa using he
          have q2 : ((e : Int) != 0) = true := by simpa using he
          clear he
          go_wp2_with fail
          have A4 := ((((A0).set 0 (.int .i64 x0)).set 1 (.int .i64 x1)).set 2 (.int .i64 x2)).set 3 (.int .i64 x3)
          refine bodyPost_ret (results_cell_row rfl _ _ w.heap.size 156 #[.int .i64 x0, .int .i64 x1, .int .i64 x2, .int .i64 x3] (0, 0) (.array 4 3) rfl A4 Tryz.underlying156 rfl (by kernel_rfl)) rfl ?_
          exact finR hR (((((r1 : Blk _ b _ _).setOther (by simp; omega) _).setOther (by simp; omega) _).setOther (by simp; omega) _).setOther (by simp; omega) _) (grown_own (grown_own (grown_own (grown_own g1 (Nat.le_refl _) _ _) (Nat.le_refl _) _ _) (Nat.le_refl _) _ _) (Nat.le_refl _) _ _) rfl
end Go.Proofs.YthiliodmbipikaaGreat

set_option linter.unusedVariables false
set_option linter.unusedSimpArgs false
namespace Go.Proofs.YthiliodmbipikaaGreat
open Go.RowKit

theorem flat_get : ∀ (l : List Rec) (i j : Nat) (h : i < l.length), j < 4 → (l.flatMap Rec.cells)[i * 4 + j]? = (l[i].cells)[j]?
  | [], i, j, h, _ => by simp at h
  | r :: l, 0, j, h, hj => by
    simp only [List.flatMap_cons, Nat.zero_mul, Nat.zero_add, List.getElem_cons_zero]
    rw [List.getElem?_append_left (by simpa [Rec.cells] using hj)]
  | r :: l, i + 1, j, h, hj => by
    simp only [List.flatMap_cons, List.getElem_cons_succ]
    rw [List.getElem?_append_right (by simp [Rec.cells]; omega)]
    rw [← flat_get l i j (by simpa using h) hj]
    congr 1
    simp [Rec.cells]
    omega
theorem recs_own {w : World} {B : Nat} {v : Value} {l : List Rec} (h : w.ownsRow B 35 4 v l.length (l.flatMap Rec.cells)) : RecsIn w v l := by
  rcases id h.2 with ⟨rfl, h0⟩ | ⟨g, cap, cur, rfl, hbg, hg, rest⟩
  · exact .inl ⟨List.eq_nil_of_length_eq_zero h0, _, _, rfl⟩
  · by_cases hl : l = []
    · subst hl; exact .inl ⟨rfl, _, _, rfl⟩
    · refine .inr ⟨g, 0, cap, rfl, hl, (Array.getElem?_eq_some_iff.1 hg).1, fun i hi => ?_⟩
      have hc := h.cells (g := g) rfl
      have at_ : ∀ j u, j < 4 → (l[i].cells)[j]? = some u → w.cell? ⟨g, 0 + i * 4 + j, none⟩ = some u := fun j u hj hu => by
        have := hc (i * 4 + j) u (by rw [flat_get l i j hi hj]; exact hu)
        have hadd : ∀ j, (⟨g, 0, none⟩ : Addr).add j = ⟨g, j, none⟩ := fun j => by unfold Addr.add; split <;> simp_all
        rw [hadd] at this
        rw [Nat.zero_add]
        exact this
      exact ⟨at_ 0 _ (by omega) rfl, at_ 1 _ (by omega) rfl, at_ 2 _ (by omega) rfl, at_ 3 _ (by omega) rfl⟩
theorem own_ne {w : World} {B size n b : Nat} {e T : TypeId} {v : Value} {xs : List Value} {cs : Array Value} (h : w.ownsRow B e size v n xs) (hb : Blk w b cs T) (hT : T ≠ e) : some b ≠ v.ownBlock := by
  rcases h.2 with ⟨rfl, _⟩ | ⟨g, cap, cur, rfl, _, hg, _⟩
  · simp [Value.ownBlock]
  · intro e1
    simp only [Value.ownBlock, Option.some.injEq] at e1
    subst e1
    unfold Blk at hb
    rw [hg] at hb
    simp only [Option.some.injEq, Obj.cells.injEq] at hb
    exact hT hb.2.1.symm
theorem recInfo : (Tryz.prog.info? 35).map (fun i => (i.zero, i.size, i.bytes)) = some (some (.agg #[.bool false, .string (S []), .bool false, .string (S [])]), 4, 48) := by kernel_rfl

/-- The blocks of Parse: the result, the reader, the numbers, the batch; the batch's records lie in a row of its own. -/
structure PInv (w0 : World) (rb ab ob : Nat) (s : List UInt8) (x0 x1 x2 x3 : Nat) (a e : Int) (v : Value) (l : List Rec) (W : World) : Prop where
  rd : Rd W rb s a e
  ar : Blk W ab #[.int .i64 x0, .int .i64 x1, .int .i64 x2, .int .i64 x3] 156
  bt : Blk W ob #[.int .i64 x0, .int .i64 x1, .int .i64 x2, v] 26
  rs : Blk W w0.heap.size #[.int .i64 0, .int .i64 0, .int .i64 0, .slice none 0 0] 26
  own : W.ownsRow w0.heap.size 35 4 v l.length (l.flatMap Rec.cells)
  below : Below w0.heap.size w0 W
  h1 : w0.heap.size < rb
  h2 : rb < ab
  h3 : ab < ob

section
variable {w0 W W' : World} {rb ab ob : Nat} {s : List UInt8} {x0 x1 x2 x3 : Nat} {a e a' e' : Int} {v v' : Value} {l l' : List Rec}
theorem PInv.drew (h : PInv w0 rb ab ob s x0 x1 x2 x3 a e v l W) : PInv w0 rb ab ob s x0 x1 x2 x3 a e v l W.drew :=
  ⟨h.rd, h.ar, h.bt, h.rs, h.own, h.below.drew, h.h1, h.h2, h.h3⟩
theorem PInv.alloc (h : PInv w0 rb ab ob s x0 x1 x2 x3 a e v l W) (o : Obj) : PInv w0 rb ab ob s x0 x1 x2 x3 a e v l (W.alloc o) :=
  ⟨Blk.alloc h.rd o, h.ar.alloc o, h.bt.alloc o, h.rs.alloc o, h.own.alloc o, h.below.alloc h.below.size o, h.h1, h.h2, h.h3⟩
theorem PInv.call (h : PInv w0 rb ab ob s x0 x1 x2 x3 a e v l W) (hr : Rd W' rb s a' e') (hg : W.grownBy W' (some rb)) : PInv w0 rb ab ob s x0 x1 x2 x3 a' e' v l W' :=
  have k1 := h.h1
  have k2 := h.h2
  have k3 := h.h3
  ⟨hr, h.ar.grown hg (by simp; omega), h.bt.grown hg (by simp; omega), h.rs.grown hg (by simp; omega), h.own.kept hg (.inr (Ne.symm (own_ne h.own h.rd (by decide)))),
    below_own h.below (Nat.le_of_lt h.h1) h.below.size hg, h.h1, h.h2, h.h3⟩
theorem PInv.app (h : PInv w0 rb ab ob s x0 x1 x2 x3 a e v l W) (hg : W.grownBy W' v.ownBlock) (ho : W'.ownsRow w0.heap.size 35 4 v' l'.length (l'.flatMap Rec.cells)) :
    PInv w0 rb ab ob s x0 x1 x2 x3 a e v' l' (W'.setCell ⟨ob, 3, none⟩ v') := by
  have n1 := own_ne h.own h.rd (by decide)
  have n2 := own_ne h.own h.ar (by decide)
  have n3 := own_ne h.own h.bt (by decide)
  have n4 := own_ne h.own h.rs (by decide)
  have k1 := h.h1
  have k2 := h.h2
  have k3 := h.h3
  have B1 : Below w0.heap.size w0 W' := ⟨hg.os.trans h.below.os, hg.tape.trans h.below.tape, hg.output.trans h.below.output, Nat.le_trans h.below.size hg.size, fun k hk => (hg.block k (Nat.lt_of_lt_of_le hk h.below.size) (fun e1 => by have := (h.own.lt k e1.symm).1; omega)).trans (h.below.block k hk)⟩
  have hbt := h.bt.grown hg n3
  refine ⟨Blk.setOther (h.rd.grown hg n1) (by simp; omega) _, (h.ar.grown hg n2).setOther (by simp; omega) _, hbt.set 3 v', (h.rs.grown hg n4).setOther (by simp; omega) _, ?_, B1.setCell (p := ⟨ob, 3, none⟩) (by simp; omega) _, h.h1, h.h2, h.h3⟩
  exact ho.kept (row := some ob) (grown_set (grown_refl _ _) 3 v') (.inr (Ne.symm (own_ne ho hbt (by decide))))
end
end Go.Proofs.YthiliodmbipikaaGreat
