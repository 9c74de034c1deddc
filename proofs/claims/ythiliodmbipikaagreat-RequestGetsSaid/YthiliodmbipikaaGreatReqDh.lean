/-
  Layer 4, the document: a command got.
-/
import Derived.Test.YthiliodmbipikaaGreatReqDg
import Derived.Test.YthiliodmbipikaaGreatReqLp
set_option linter.unusedVariables false
set_option linter.unusedSimpArgs false
namespace Go.Proofs.YthiliodmbipikaaGreat
open Go.RowKit
attribute [local go_sem] ByteArray.extract_mk ByteArray.mk_append_mk

theorem keptRow (W : World) (g : Nat) (A : Array Value) : KeptR [g] W (W.setRow g A) :=
  ⟨rfl, rfl, rfl, by simp, fun i _ hn => setRow_other W g i A (fun e => hn (by simp [e]))⟩
theorem blkRow {W : World} {g : Nat} {z : Array Value} {T : TypeId} (h : Blk W g z T) (A : Array Value) : Blk (W.setRow g A) g A T := setRow_heap W g z A T (0, 0) h
theorem arr_oneD (c : Cmd) (ra ta : Option Addr) (n1 c1 n2 c2 : Nat) : (c.arr (.slice ra n1 c1) (.slice ta n2 c2)).all (·.oneCell') = true := by simp [Cmd.arr, Value.oneCell']
theorem nil_tops {W : World} {l : List (List UInt8)} (h : TopsIn W (.slice none 0 0) l) : l = [] := by
  rcases h with ⟨h, _⟩ | ⟨b, o, cap, h, _⟩
  · exact h
  · simp at h
/-- Where the document's Get stands. -/
structure GInv (w0 W : World) (s : List UInt8) (ob : Nat) (k : Nat) (c : Cmd) (rv tv : Value) (a : Int) (bad : Bool) : Prop where
  rs : Blk W w0.heap.size #[.int .i64 0, .string (S []), .int .i64 0, .int .i64 0, .int .i64 0, .int .i64 0, .int .i64 0, .int .i64 0, .slice none 0 0, .string (S []), .string (S []), .int .i64 0, .bool false, .slice none 0 0] 29
  rd : Blk W (w0.heap.size + 1) (inr s a bad) 40
  op : Blk W ob (c.arr rv tv) 29
  cin : CmdIn W c rv tv
  bd : CmdBd c
  o1 : ∀ b, rv.ownBlock = some b → ob + 1 ≤ b ∧ b < W.heap.size
  o2 : ∀ b, tv.ownBlock = some b → ob + 1 ≤ b ∧ b < W.heap.size
  bel : Below w0.heap.size w0 W
  lt : w0.heap.size + 1 < ob
  kind : c.kind = (k : Int)
  go : bad = false → 0 ≤ a ∧ a ≤ s.length
/-- What has been read of a command that stands there. -/
def GFull (s : List UInt8) (k : Nat) (L : List UInt8) (a1 : Int) (bad1 : Bool) (j : Nat) (c : Cmd) (a : Int) (bad : Bool) : Prop :=
  ∀ (y : Cmd) (b : Int), bad1 = false → y.kind = (k : Int) → ccheck y = 0 → At s a1 (L.flatMap (oneB y)) b → c = (L.take j).foldl (cset y) { zcmd with kind := (k : Int) } ∧ bad = false ∧ At s a ((L.drop j).flatMap (oneB y)) b
theorem GFull.step {s : List UInt8} {k : Nat} {L : List UInt8} {a1 a a' : Int} {bad1 bad' : Bool} {j : Nat} {c c' : Cmd} (h : GFull s k L a1 bad1 j c a false) (hL : L = hasL k) (hj : j < L.length) (st : OneS s L[j] a c c' a' bad') : GFull s k L a1 bad1 (j + 1) c' a' bad' := by
  intro y b h0 hk hy hat
  obtain ⟨h1, _, h3⟩ := h y b h0 hk hy hat
  rw [List.drop_eq_getElem_cons hj, List.flatMap_cons] at h3
  obtain ⟨g1, g2⟩ := h3.split
  obtain ⟨h4, h5, h6⟩ := st y _ hy (by rw [hk]; simp [hL]) g1
  rw [← h5] at g2
  refine ⟨?_, h6, g2⟩
  rw [List.take_succ_eq_append_getElem hj, List.foldl_append, ← h1, h4]
  rfl
theorem l_last (k : Nat) (hk : k ≤ 12) (j : Nat) (hj : j < (hasL k).length) (hx : (hasL k)[j] = 108) : 108 ∉ (hasL k).take j := by
  have : k = 0 ∨ k = 1 ∨ k = 2 ∨ k = 3 ∨ k = 4 ∨ k = 5 ∨ k = 6 ∨ k = 7 ∨ k = 8 ∨ k = 9 ∨ k = 10 ∨ k = 11 ∨ k = 12 := by omega
  rcases this with rfl | rfl | rfl | rfl | rfl | rfl | rfl | rfl | rfl | rfl | rfl | rfl | rfl
  all_goals
    simp only [hasL, List.length_cons, List.length_nil] at hj
    have hjj : j = 0 ∨ j = 1 ∨ j = 2 ∨ j = 3 ∨ j = 4 := by omega
    rcases hjj with rfl | rfl | rfl | rfl | rfl
    all_goals first
      | (exfalso; omega)
      | (simp [hasL] at hx; done)
      | (simp [hasL])
/-- Any letter read. -/
theorem in_one (s : List UInt8) (p B : Nat) (w : World) (c : Cmd) (rv tv : Value) (a : Int) (x : UInt8) (hx : x = 116 ∨ x = 112 ∨ x = 110 ∨ x = 111 ∨ x = 98 ∨ x = 103 ∨ x = 109 ∨ x = 101 ∨ x = 114 ∨ x = 108) (hl : s.length ≤ 900000) (hp : Blk w p (inr s a false) 40) (ha : 0 ≤ a ∧ a ≤ s.length) (hpB : p < B) (hB : B ≤ w.heap.size) (hi : CmdIn w c rv tv) (bd : CmdBd c) (o1 : ∀ b, rv.ownBlock = some b → B ≤ b ∧ b < w.heap.size) (o2 : ∀ b, tv.ownBlock = some b → B ≤ b ∧ b < w.heap.size)
    (hn : x = 108 → tv = .slice none 0 0) : OneCall s p B w c rv tv x (x.toNat : Nat) a := by
  rcases hx with rfl | rfl | rfl | rfl | rfl | rfl | rfl | rfl | rfl | rfl
  · exact in_one_t s p B w c rv tv a hl hp ha hpB hB hi bd o1 o2
  · exact in_one_p s p B w c rv tv a hl hp ha hpB hB hi bd o1 o2
  · exact in_one_n s p B w c rv tv a hl hp ha hpB hB hi bd o1 o2
  · exact in_one_o s p B w c rv tv a hl hp ha hpB hB hi bd o1 o2
  · exact in_one_b s p B w c rv tv a hl hp ha hpB hB hi bd o1 o2
  · exact in_one_g s p B w c rv tv a hl hp ha hpB hB hi bd o1 o2
  · exact in_one_m s p B w c rv tv a hl hp ha hpB hB hi bd o1 o2
  · exact in_one_e s p B w c rv tv a hl hp ha hpB hB hi bd o1 o2
  · exact in_one_r s p B w c rv tv a hl hp ha hpB hB hi bd o1 o2
  · exact in_one_l s p B w c rv tv a hl hp ha hpB hB hi bd o1 o2 (nil_tops ((hn rfl) ▸ hi.tops)) (hn rfl)
/-- The blocks at the start. -/
def WGet (s : List UInt8) (w : World) : World := (w.alloc (.cells #[.int .i64 0, .string (S []), .int .i64 0, .int .i64 0, .int .i64 0, .int .i64 0, .int .i64 0, .int .i64 0, .slice none 0 0, .string (S []), .string (S []), .int .i64 0, .bool false, .slice none 0 0] 29)).alloc (.cells #[.string (S s), .int .i64 0, .bool false] 40)
theorem wget (s : List UInt8) (w : World) : Below w.heap.size w (WGet s w) ∧ Blk (WGet s w) w.heap.size #[.int .i64 0, .string (S []), .int .i64 0, .int .i64 0, .int .i64 0, .int .i64 0, .int .i64 0, .int .i64 0, .slice none 0 0, .string (S []), .string (S []), .int .i64 0, .bool false, .slice none 0 0] 29 ∧ Blk (WGet s w) (w.heap.size + 1) (inr s 0 false) 40 ∧ (WGet s w).heap.size = w.heap.size + 1 + 1 := by
  have h := Blk.new (w.alloc (.cells #[.int .i64 0, .string (S []), .int .i64 0, .int .i64 0, .int .i64 0, .int .i64 0, .int .i64 0, .int .i64 0, .slice none 0 0, .string (S []), .string (S []), .int .i64 0, .bool false, .slice none 0 0] 29)) #[.string (S s), .int .i64 0, .bool false] 40
  rw [World.size_alloc] at h
  exact ⟨below_all (below_all (Below.refl _ _)), (Blk.new w _ _).alloc _, h, by simp [WGet]⟩
set_option maxHeartbeats 4000000 in
set_option maxRecDepth 100000 in
theorem dget4 (s : List UInt8) (w : World) (hl9 : s.length ≤ 900000) : GetCall 4 s w := by
  refine GetCall.intro fun R hR => ?_
  have HL : s.length ≤ maxLen := by unfold maxLen; omega
  obtain ⟨B0, X0, P0, sz0⟩ := wget s w
  go_enter Tryz.func4, Tryz.ntmps4
  go_wp2_with fail
  refine (show Calls Tryz.prog 8 _ (WGet s w) _ from ?_)
  generalize WGet s w = W0 at B0 X0 P0 sz0 ⊢
  have cc := Lib.hid (in_num s 0 false (w.heap.size + 1) W0 HL P0)
  refine cc.out.use ?_
  intro w1 u a1 bad1 p1 k1 st
  obtain ⟨v, rfl, hb, hs⟩ := st
  have X1 := Lib.hid (X0.keptR k1 (by simp))
  have B1 := Lib.hid (k1.toBelow B0 (by simp))
  have RD1 := Lib.hid p1
  have HS := Lib.hid hs
  have hz1 : w.heap.size + 1 + 1 ≤ w1.heap.size := by have := k1.size; omega
  clear cc p1 k1 hs B0 X0 P0 sz0
  obtain ⟨k, rfl, hk0⟩ : ∃ k : Nat, v = (k : Int) ∧ k ≤ 1099511627776 := ⟨v.toNat, by omega, by omega⟩
  clear hb
  obtain ⟨W1, hW1⟩ : ∃ W1, w1.alloc (.cells #[.int .i64 (k : Nat), .string (S []), .int .i64 0, .int .i64 0, .int .i64 0, .int .i64 0, .int .i64 0, .int .i64 0, .slice none 0 0, .string (S []), .string (S []), .int .i64 0, .bool false, .slice none 0 0] 29) = W1 := ⟨_, rfl⟩
  have hB1 : Below w1.heap.size w1 W1 := hW1 ▸ below_all (Below.refl _ _)
  have HW1 := Lib.hid hW1
  have X2 := Lib.hid (X1.out.below hB1)
  have RD2 := Lib.hid (RD1.out.below hB1)
  have OP2 : Hid (Blk W1 w1.heap.size #[.int .i64 (k : Nat), .string (S []), .int .i64 0, .int .i64 0, .int .i64 0, .int .i64 0, .int .i64 0, .int .i64 0, .slice none 0 0, .string (S []), .string (S []), .int .i64 0, .bool false, .slice none 0 0] 29) := Lib.hid (hW1 ▸ Blk.new w1 _ _)
  have B2 := Lib.hid (below_any (Nat.le_refl _) B1.out hB1)
  clear hW1 hB1 X1 RD1 B1
  have HBAD := Lib.hid (fun (W : World) (hg : Got ccheck cmdText zcmd s zcmd 40) (hk : KeptR [w.heap.size] W1 W) => hR.out W zcmd (.slice none 0 0) (.slice none 0 0) 40 ⟨hg, zcmd_in W, zcmd_bd, by simp [Value.ownBlock], by simp [Value.ownBlock], hk.toBelow B2.out (by simp)⟩)
  dsimp only [Cmd.arr, zcmd] at HBAD
  have rd := RD2.out
  unfold inr at rd
  obtain ⟨k0, r0, r1, r2⟩ := rd.c3
  clear rd
  obtain ⟨HX2, kx2, x0, x1, x2, x3, x4, x5, x6, x7, x8, x9, x10, x11, x12, x13⟩ := arr_cells X2.out
  obtain ⟨HO2, ko2, y0, y1, y2, y3, y4, y5, y6, y7, y8, y9, y10, y11, y12, y13⟩ := arr_cells OP2.out
  have fx : ∀ i, W1.frozen? ⟨w.heap.size, i, none⟩ = false := fun i => Blk.frozen X2.out i
  clear HX2 HO2
  by_cases hbk : bad1 = false ∧ k ≤ 12
  case neg =>
    have g : Hid (Got ccheck cmdText zcmd s zcmd 40) := Lib.hid ⟨.inr ⟨rfl, rfl⟩, fun y hy ht => by
      exfalso
      have ok := ccheck_ok hy
      have hat := at_whole s
      rw [← ht] at hat
      have hat' : At (cmdText y) 0 (cmdText y) (cmdText y).length := hat
      rw [ht] at hat'
      have hat2 : At s 0 (vput y.kind.toNat ++ (hasF y.kind.toNat).flatMap (ftxt y)) s.length := by
        have h := at_whole s
        rw [← ht] at h
        unfold cmdText at h
        rw [show vput y.kind.toNat ++ List.flatMap (ftxt y) (hasF y.kind.toNat) = s from ht] at h ⊢
        exact h
      obtain ⟨g1, _⟩ := hat2.split
      obtain ⟨h1, _, h3⟩ := HS.out.full y.kind _ rfl ⟨ok.kind.1, by have := ok.kind.2; omega⟩ g1
      exact hbk ⟨be_zero h3, by have := ok.kind.2; omega⟩⟩
    cases bad1
    · have t1 : ((12 : Int) < (k : Int)) = True := eq_true (by have : ¬ k ≤ 12 := fun h => hbk ⟨rfl, h⟩; omega)
      have t2 : decide ((12 : Int) < (k : Int)) = true := decide_eq_true (by have : ¬ k ≤ 12 := fun h => hbk ⟨rfl, h⟩; omega)
      have t3 : (12 < k) = True := eq_true (by have : ¬ k ≤ 12 := fun h => hbk ⟨rfl, h⟩; omega)
      clear hbk HS
      go_upto_region 3 with fail
      rw [HW1.out]
      clear HW1
      go_wp2_with fail
      refine bodyPost_ret (results_cell2r rfl _ _ w.heap.size 29 #[.int .i64 0, .string (S []), .int .i64 0, .int .i64 0, .int .i64 0, .int .i64 0, .int .i64 0, .int .i64 0, .slice none 0 0, .string (S []), .string (S []), .int .i64 0, .bool false, .slice none 0 0] (0, 0) _ _ rfl rfl ?c1 Tryz.underlying29 rfl (by kernel_rfl)) rfl ?_
      case c1 => exact (set14 X2.out).1
      exact HBAD.out _ g.out ((KeptR.refl _ W1).trans (set14 X2.out).2)
    · clear hbk HS
      go_upto_region 3 with fail
      rw [HW1.out]
      clear HW1
      go_wp2_with fail
      refine bodyPost_ret (results_cell2r rfl _ _ w.heap.size 29 #[.int .i64 0, .string (S []), .int .i64 0, .int .i64 0, .int .i64 0, .int .i64 0, .int .i64 0, .int .i64 0, .slice none 0 0, .string (S []), .string (S []), .int .i64 0, .bool false, .slice none 0 0] (0, 0) _ _ rfl rfl ?c2 Tryz.underlying29 rfl (by kernel_rfl)) rfl ?_
      case c2 => exact (set14 X2.out).1
      exact HBAD.out _ g.out ((KeptR.refl _ W1).trans (set14 X2.out).2)
  case pos =>
    obtain ⟨hbad, hk12⟩ := hbk
    subst hbad
    have t1 : ((12 : Int) < (k : Int)) = False := eq_false (by omega)
    have t2 : decide ((12 : Int) < (k : Int)) = false := decide_eq_false (by omega)
    have t3 : (12 < k) = False := eq_false (by omega)
    have cH := Lib.hid (fun w => has4 k hk12 w)
    have hin := Lib.hid (fun x hx => hasL_in k hk12 x hx)
    have hlast := Lib.hid (fun j hj hx => l_last k hk12 j hj hx)
    have HALL := Lib.hid (fun (y : Cmd) hy hr => cset_all y k hk12 hy hr)
    have hTX := Lib.hid (fun (y : Cmd) (hy : y.kind = (k : Int)) => (show cmdText y = vput k ++ (hasL k).flatMap (oneB y) by rw [cmdText_L y (by omega), hy]; rfl))
    have hL16 := hasL_len k
    obtain ⟨L, hL⟩ : ∃ L, hasL k = L := ⟨_, rfl⟩
    rw [hL] at cH hin hTX HALL hL16
    have HLk := Lib.hid hL
    clear hL
    go_upto_region 3 with fail
    rw [HW1.out]
    clear HW1
    go_wp2_with fail
    refine (cH.out _).use ?_
    intro w3 b3
    have I0 : Hid (GInv w w3 s w1.heap.size k ⟨(k : Int), [], 0, 0, 0, 0, 0, 0, [], [], [], 0, false, []⟩ (.slice none 0 0) (.slice none 0 0) a1 false) := Lib.hid
      ⟨X2.out.below b3, RD2.out.below b3, OP2.out.below b3, ⟨.inl ⟨rfl, _, _, rfl⟩, .inl ⟨rfl, _, _, rfl⟩⟩, ⟨by simp, by simp, by simp, ⟨by simp, by simp⟩, ⟨by simp, by simp⟩⟩, by simp [Value.ownBlock], by simp [Value.ownBlock], below_any (Nat.le_refl _) B2.out b3, by omega, rfl, at_be HS.out⟩
    have F0 : Hid (GFull s k L a1 false 0 ⟨(k : Int), [], 0, 0, 0, 0, 0, 0, [], [], [], 0, false, []⟩ a1 false) := Lib.hid (fun y b _ _ _ hat => ⟨rfl, rfl, by simpa using hat⟩)
    clear cH b3 X2 RD2 OP2 B2 r0 r1 r2 k0 x0 x1 x2 x3 x4 x5 x6 x7 x8 x9 x10 x11 x12 x13 y0 y1 y2 y3 y4 y5 y6 y7 y8 y9 y10 y11 y12 y13 fx kx2 ko2 t1 t2 t3 HBAD
    go_wp2_with fail
    go_loopw [7] (fun (x7 : Value) (W : World) => ∃ (j : Nat) (c : Cmd) (rv tv : Value) (a : Int) (bad : Bool), x7 = .int .i64 (j : Int) ∧ j ≤ L.length ∧ Hid (GInv w W s w1.heap.size k c rv tv a bad) ∧ Hid (GFull s k L a1 false j c a bad) ∧ Hid (108 ∉ L.take j → tv = .slice none 0 0)) (fun (x7 : Value) (W : World) => (L.length - intOf x7).toNat)
    case atStart => exact ⟨0, _, _, _, a1, false, rfl, by omega, I0, F0, Lib.hid (fun _ => rfl)⟩
    case round =>
      clear I0 F0
      obtain ⟨j, c, rv, tv, a, bad, rfl, hj, hI, hF, hN⟩ := hrel
      have rd := hI.out.rd
      unfold inr at rd
      obtain ⟨k0, r0, r1, r2⟩ := rd.c3
      clear rd
      by_cases hgo : j < L.length ∧ bad = false
      · obtain ⟨hjl, hbad⟩ := hgo
        subst hbad
        obtain ⟨y, hy⟩ : ∃ y, ((S L)[j]'(by rw [S_size]; exact hjl)).toNat = y := ⟨_, rfl⟩
        have hy' : L[j].toNat = y := hy
        obtain ⟨ra, rc, hrv⟩ := hI.out.cin.recs.form
        obtain ⟨ta, tc, htv⟩ := hI.out.cin.tops.form
        have ID := Lib.hid (KeptR.drew' (KeptR.refl [] wr))
        have hnil : L[j] = 108 → tv = .slice none 0 0 := fun hx => hN.out (by
          have h := HLk.out
          subst h
          exact hlast.out j hjl hx)
        have HNIL := Lib.hid hnil
        have cO := Lib.hid (in_one s (w.heap.size + 1) (w1.heap.size + 1) wr.drew c rv tv a L[j] (hin.out _ (List.getElem_mem hjl)) hl9 hI.out.rd.drew (hI.out.go rfl) (by have := hI.out.lt; omega) (by have := hI.out.op.lt; exact this) (hI.out.cin.keptR ID.out (by simp) (by simp)) hI.out.bd hI.out.o1 hI.out.o2 hnil)
        rw [hy'] at cO
        have OPd := Lib.hid (hI.out.op.drew)
        have i1 : (0 : Int) ≤ (j : Int) := by omega
        have i2 : (j : Int) < (L.length : Int) := by omega
        subst hrv htv
        clear hnil hy'
        go_upto_region 9 with fail
        refine wp_region_held_drew (S := fun _ => True) (by kernel_rfl) trivial (fun hHeld => ?_)
        refine wpAnyH_take (i := 0) (v := ?_) rfl (by kernel_rfl) (by kernel_rfl) (by kernel_rfl) (fun _ _ _ h => h) (Or.inl ⟨by rfl, ?_⟩) hHeld ?_
        rotate_left
        · (intro w hSw; go_simp; try with_reducible rfl)
        try simp only [List.getElem_toArray, List.getElem_cons_zero, List.getElem_cons_succ, Act.put, List.setIfInBounds_toArray, List.set_cons_zero, List.set_cons_succ]
        refine wpAnyH_take (i := 2) (v := ?_) rfl (by kernel_rfl) (by kernel_rfl) (by kernel_rfl) (fun _ _ _ h => h) (Or.inl ⟨by rfl, ?_⟩) hHeld ?_
        rotate_left
        · (intro w hSw; go_simp; try with_reducible rfl)
        try simp only [List.getElem_toArray, List.getElem_cons_zero, List.getElem_cons_succ, Act.put, List.setIfInBounds_toArray, List.set_cons_zero, List.set_cons_succ]
        refine wpAnyH_take (i := 3) (v := ?_) rfl (by kernel_rfl) (by kernel_rfl) (by kernel_rfl) (fun _ _ _ h => h) (Or.inl ⟨by rfl, ?_⟩) hHeld ?_
        rotate_left
        · (intro w hSw; go_simp; try with_reducible rfl)
        try simp only [List.getElem_toArray, List.getElem_cons_zero, List.getElem_cons_succ, Act.put, List.setIfInBounds_toArray, List.set_cons_zero, List.set_cons_succ]
        refine wpAnyH_take (i := 4) (v := ?_) rfl (by kernel_rfl) (by kernel_rfl) (by kernel_rfl) (fun _ _ _ h => h) (Or.inl ⟨by rfl, ?_⟩) hHeld ?_
        rotate_left
        · (intro w hSw; go_simp; try with_reducible rfl)
        try simp only [List.getElem_toArray, List.getElem_cons_zero, List.getElem_cons_succ, Act.put, List.setIfInBounds_toArray, List.set_cons_zero, List.set_cons_succ]
        refine wpAnyH_ready (rs := [1]) (by kernel_rfl) (by simp) ?_
        refine AllReadyH.cons rfl (fun K hK => ?_) AllReadyH.nil
        rw [if_pos (by rfl)]
        refine wp_load_row 29 _ rfl w1.heap.size rfl 29 _ (0, 0) _ OPd.out Tryz.underlying29 rfl (by kernel_rfl) ?_
        refine hK.out _ _ trivial (fun hHeld => ?_)
        clear hK K
        try simp only [List.getElem_toArray, List.getElem_cons_zero, List.getElem_cons_succ, Act.put, List.setIfInBounds_toArray, List.set_cons_zero, List.set_cons_succ]
        refine wpAnyH_ready (rs := [5]) (by kernel_rfl) (by simp) ?_
        refine AllReadyH.cons rfl (fun K hK => ?_) AllReadyH.nil
        go_simp
        refine cO.out.use ?_
        intro w4 c' rv' tv' a' bad' oi os hkind hne
        obtain ⟨ra', rc', hrv'⟩ := oi.cin.recs.form
        obtain ⟨ta', tc', htv'⟩ := oi.cin.tops.form
        have OI := Lib.hid oi
        have OS := Lib.hid os
        have HNE := Lib.hid hne
        have OP4 := Lib.hid (OPd.out.keptR oi.k (by have := hI.out.lt; simp; omega))
        subst hrv' htv'
        clear oi os hne
        go_wp2_with fail
        refine hK.out _ _ trivial (fun hHeld => ?_)
        clear hK K
        try simp only [List.getElem_toArray, List.getElem_cons_zero, List.getElem_cons_succ, Act.put, List.setIfInBounds_toArray, List.set_cons_zero, List.set_cons_succ]
        refine wpAnyH_ready (rs := [6]) (by kernel_rfl) (by simp) ?_
        refine AllReadyH.cons rfl (fun K hK => ?_) AllReadyH.nil
        rw [if_pos (by rfl)]
        refine wp_store_row 29 _ _ rfl w1.heap.size (c'.arr (.slice ra' c'.recs.length rc') (.slice ta' c'.tops.length tc')) rfl rfl 29 _ OP4.out (by kernel_rfl) rfl (arr_oneD _ _ _ _ _ _ _) ?_
        refine hK.out _ _ trivial (fun hHeld => ?_)
        clear hK K
        try simp only [List.getElem_toArray, List.getElem_cons_zero, List.getElem_cons_succ, Act.put, List.setIfInBounds_toArray, List.set_cons_zero, List.set_cons_succ]
        refine wpAnyH_done (by kernel_rfl) ?_ _
        go_wp2_with fail
        go_roundw
        case rel =>
          have KR := keptRow w4 w1.heap.size (c'.arr (.slice ra' c'.recs.length rc') (.slice ta' c'.tops.length tc'))
          have hlt := hI.out.lt
          refine ⟨j + 1, c', .slice ra' c'.recs.length rc', .slice ta' c'.tops.length tc', a', bad', by go_num, by omega, Lib.hid ⟨?_, ?_, ?_, ?_, OI.out.bd, ?_, ?_, ?_, hlt, hkind.trans hI.out.kind, OI.out.go⟩, Lib.hid (hF.out.step HLk.out.symm hjl OS.out), Lib.hid ?_⟩
          · exact (((hI.out.rs.drew).keptR OI.out.k (by simp))).keptR KR (by simp; omega)
          · exact OI.out.rd.keptR KR (by simp; omega)
          · exact blkRow OP4.out _
          · exact OI.out.cin.keptR KR (fun b hb hm => by have := (OI.out.o1 b hb).1; simp at hm; omega) (fun b hb hm => by have := (OI.out.o2 b hb).1; simp at hm; omega)
          · exact fun b hb => ⟨(OI.out.o1 b hb).1, Nat.lt_of_lt_of_le (OI.out.o1 b hb).2 KR.size⟩
          · exact fun b hb => ⟨(OI.out.o2 b hb).1, Nat.lt_of_lt_of_le (OI.out.o2 b hb).2 KR.size⟩
          · exact KR.toBelow (OI.out.k.toBelow hI.out.bel.drew (by simp)) (by simp; omega)
          · intro hx
            rw [List.take_succ_eq_append_getElem hjl] at hx
            have h1 : 108 ∉ L.take j := fun h => hx (List.mem_append_left _ h)
            have h2 : L[j] ≠ 108 := fun h => hx (List.mem_append_right _ (by rw [h]; exact List.mem_singleton.2 rfl))
            rw [HNE.out h2]
            exact hN.out h1
        case measure => simp [intOf]; omega
      · go_upto_region 7 with fail
        go_cut [39] (fun v39 wx => v39 = .bool false ∧ wx = wr)
        case first =>
          by_cases hin : (j : Int) < (L.length : Int)
          · have t1 : decide ((j : Int) < (L.length : Int)) = true := decide_eq_true hin
            have t1b : ((j : Int) < (L.length : Int)) = True := eq_true hin
            cases bad
            · exact absurd ⟨by omega, rfl⟩ hgo
            · go_wp2_with fail
              go_meet
              exact ⟨rfl, rfl⟩
          · have t1 : decide ((j : Int) < (L.length : Int)) = false := decide_eq_false hin
            have t1b : ((j : Int) < (L.length : Int)) = False := eq_false hin
            go_wp2_with fail
            go_meet
            exact ⟨rfl, rfl⟩
        case rest =>
          obtain ⟨rfl, rfl⟩ := hcut
          obtain ⟨ra, rc, hrv⟩ := hI.out.cin.recs.form
          obtain ⟨ta, tc, htv⟩ := hI.out.cin.tops.form
          subst hrv htv
          have full : Hid (∀ y, ccheck y = 0 → cmdText y = s → c = y ∧ be bad = 0) := Lib.hid (fun y hy ht => by
            have ok := ccheck_ok hy
            have h := at_whole s
            have hat0 : At s 0 (cmdText y) s.length := by rw [ht]; exact h
            have hat1 : At s 0 (vput y.kind.toNat ++ (hasF y.kind.toNat).flatMap (ftxt y)) s.length := hat0
            obtain ⟨g1, _⟩ := hat1.split
            obtain ⟨h1, h2, _⟩ := HS.out.full y.kind _ rfl ⟨ok.kind.1, by have := ok.kind.2; omega⟩ g1
            rw [hTX.out y h1.symm] at hat0
            obtain ⟨g3, g4⟩ := hat0.split
            have e1 : a1 = 0 + ((vput k).length : Int) := by
              rw [h2]
              have : y.kind.toNat = k := by omega
              rw [this]
            rw [← e1] at g4
            obtain ⟨h4, h5, h6⟩ := hF.out y _ rfl h1.symm hy g4
            have hjl : j = L.length := by
              rcases Nat.lt_or_ge j L.length with hh | hh
              · exact absurd ⟨hh, h5⟩ hgo
              · omega
            rw [hjl, List.take_length, HALL.out y h1.symm (ccheck_zero hy).2.2.1] at h4
            exact ⟨h4, by rw [h5]; rfl⟩)
          have cP := Lib.hid (dput4 c (.slice ra c.recs.length rc) (.slice ta c.tops.length tc) wc hI.out.cin hI.out.bd)
          have hcp : cmdPut c = if ccheck c = 0 then (cmdText c, 0) else ([], ccheck c) := rfl
          have HCP := Lib.hid hcp
          clear hcp
          have gno := Lib.hid (fun h => got_no (z := zcmd) (c := c) (e := be bad) h full.out)
          have gok := Lib.hid (fun h1 h2 => got_ok (z := zcmd) (c := c) (e := be bad) h1 h2 full.out)
          obtain ⟨X, hX⟩ : ∃ X, ccheck c = X := ⟨_, rfl⟩
          obtain ⟨tx, htx⟩ : ∃ tx, cmdText c = tx := ⟨_, rfl⟩
          rw [hX, htx] at gno gok HCP
          rw [HCP.out] at cP
          clear hX htx HCP full
          have HFIN := Lib.hid (fun (W : World) n (hg : Got ccheck cmdText zcmd s c n) (hk : KeptR [w.heap.size] wc W) => hR.out W c (.slice ra c.recs.length rc) (.slice ta c.tops.length tc) n ⟨hg, hI.out.cin.keptR hk (fun b hb hm => by have h1 := (hI.out.o1 b hb).1; have h2 := hI.out.lt; simp at hm; omega) (fun b hb hm => by have h1 := (hI.out.o2 b hb).1; have h2 := hI.out.lt; simp at hm; omega), hI.out.bd, fun b hb => by have h1 := hI.out.o1 b hb; have h2 := hI.out.lt; have h3 := hk.size; omega, fun b hb => by have h1 := hI.out.o2 b hb; have h2 := hI.out.lt; have h3 := hk.size; omega, hk.toBelow hI.out.bel (by simp)⟩)
          have HBAD := Lib.hid (fun (W : World) (hg : Got ccheck cmdText zcmd s zcmd 40) (hk : KeptR [w.heap.size] wc W) => hR.out W zcmd (.slice none 0 0) (.slice none 0 0) 40 ⟨hg, zcmd_in W, zcmd_bd, by simp [Value.ownBlock], by simp [Value.ownBlock], hk.toBelow hI.out.bel (by simp)⟩)
          have OPb := hI.out.op
          have HOP := Lib.hid OPb
          dsimp only [Cmd.arr, zcmd] at cP HFIN HBAD OPb
          obtain ⟨HOb, kob, x0, x1, x2, x3, x4, x5, x6, x7, x8, x9, x10, x11, x12, x13⟩ := arr_cells OPb
          have HRD := Lib.hid hI.out.rd
          have HRS := Lib.hid hI.out.rs
          clear OPb HOb hI hF hN hgo hTX HALL hlast hin HS
          by_cases hz : X = 0
          · subst hz
            rw [if_pos rfl] at cP
            dsimp only at cP
            go_wp2_with fail
            refine cP.out.use ?_
            intro w9 b9
            have p9 := HRD.out.below b9
            unfold inr at p9
            obtain ⟨k9, m0, m1, m2⟩ := p9.c3
            have R9 := HRS.out.below b9
            have HR9 := Lib.hid R9
            obtain ⟨HRz, kr9, y0, y1, y2, y3, y4, y5, y6, y7, y8, y9, y10, y11, y12, y13⟩ := arr_cells R9
            have fr9 : ∀ i, w9.frozen? ⟨w.heap.size, i, none⟩ = false := fun i => Blk.frozen R9 i
            obtain ⟨HOz, kq9, z0, z1, z2, z3, z4, z5, z6, z7, z8, z9, z10, z11, z12, z13⟩ := arr_cells (HOP.out.below b9)
            have K9 := Lib.hid ((KeptR.refl [w.heap.size] wc).bel b9)
            clear p9 R9 b9 HRz HOz x0 x1 x2 x3 x4 x5 x6 x7 x8 x9 x10 x11 x12 x13
            cases bad
            · by_cases ht : tx = s
              · have g := Lib.hid (gok.out (by first | rfl | trivial) ht)
                have t1 : (tx != s) = false := by simp [ht]
                have t5 : (tx == s) = true := by simp [ht]
                clear gno gok ht
                go_wp2_with fail
                refine bodyPost_ret (results_cell2r rfl _ _ w.heap.size 29 #[.int .i64 c.kind, .string (S c.topic), .int .i64 c.pn, .int .i64 c.n, .int .i64 c.off, .int .i64 c.bp, .int .i64 c.be, .int .i64 c.bq, .slice ra c.recs.length rc, .string (S c.group), .string (S c.member), .int .i64 c.gen, .bool c.robin, .slice ta c.tops.length tc] (0, 0) _ _ rfl rfl ?c3 Tryz.underlying29 rfl (by kernel_rfl)) rfl ?_
                case c3 => exact (set14 HR9.out).1
                exact HFIN.out _ 0 g.out (K9.out.trans (set14 HR9.out).2)
              · have g := Lib.hid (gno.out (.inr (.inr ht)))
                have t1 : (tx != s) = true := by simpa using ht
                have t5 : (tx == s) = false := by simpa using ht
                clear gno gok ht
                go_wp2_with fail
                refine bodyPost_ret (results_cell2r rfl _ _ w.heap.size 29 #[.int .i64 0, .string (S []), .int .i64 0, .int .i64 0, .int .i64 0, .int .i64 0, .int .i64 0, .int .i64 0, .slice none 0 0, .string (S []), .string (S []), .int .i64 0, .bool false, .slice none 0 0] (0, 0) _ _ rfl rfl ?c4 Tryz.underlying29 rfl (by kernel_rfl)) rfl ?_
                case c4 => exact (set14 HR9.out).1
                exact HBAD.out _ g.out (K9.out.trans (set14 HR9.out).2)
            · have g := Lib.hid (gno.out (.inl (by simp [be])))
              clear gno gok
              go_wp2_with fail
              refine bodyPost_ret (results_cell2r rfl _ _ w.heap.size 29 #[.int .i64 0, .string (S []), .int .i64 0, .int .i64 0, .int .i64 0, .int .i64 0, .int .i64 0, .int .i64 0, .slice none 0 0, .string (S []), .string (S []), .int .i64 0, .bool false, .slice none 0 0] (0, 0) _ _ rfl rfl ?c5 Tryz.underlying29 rfl (by kernel_rfl)) rfl ?_
              case c5 => exact (set14 HR9.out).1
              exact HBAD.out _ g.out (K9.out.trans (set14 HR9.out).2)
          · have g := Lib.hid (gno.out (.inr (.inl hz)))
            rw [if_neg hz] at cP
            dsimp only at cP
            have t3 : ((X : Int) != 0) = true := by simpa using hz
            have t4 : ((X : Int) == 0) = false := by simpa using hz
            clear gno gok hz
            go_wp2_with fail
            refine cP.out.use ?_
            intro w9 b9
            have p9 := HRD.out.below b9
            unfold inr at p9
            obtain ⟨k9, m0, m1, m2⟩ := p9.c3
            have R9 := HRS.out.below b9
            have HR9 := Lib.hid R9
            obtain ⟨HRz, kr9, y0, y1, y2, y3, y4, y5, y6, y7, y8, y9, y10, y11, y12, y13⟩ := arr_cells R9
            have fr9 : ∀ i, w9.frozen? ⟨w.heap.size, i, none⟩ = false := fun i => Blk.frozen R9 i
            have K9 := Lib.hid ((KeptR.refl [w.heap.size] wc).bel b9)
            clear p9 R9 b9 HRz x0 x1 x2 x3 x4 x5 x6 x7 x8 x9 x10 x11 x12 x13
            cases bad
            · go_wp2_with fail
              refine bodyPost_ret (results_cell2r rfl _ _ w.heap.size 29 #[.int .i64 0, .string (S []), .int .i64 0, .int .i64 0, .int .i64 0, .int .i64 0, .int .i64 0, .int .i64 0, .slice none 0 0, .string (S []), .string (S []), .int .i64 0, .bool false, .slice none 0 0] (0, 0) _ _ rfl rfl ?c6 Tryz.underlying29 rfl (by kernel_rfl)) rfl ?_
              case c6 => exact (set14 HR9.out).1
              exact HBAD.out _ g.out (K9.out.trans (set14 HR9.out).2)
            · go_wp2_with fail
              refine bodyPost_ret (results_cell2r rfl _ _ w.heap.size 29 #[.int .i64 0, .string (S []), .int .i64 0, .int .i64 0, .int .i64 0, .int .i64 0, .int .i64 0, .int .i64 0, .slice none 0 0, .string (S []), .string (S []), .int .i64 0, .bool false, .slice none 0 0] (0, 0) _ _ rfl rfl ?c7 Tryz.underlying29 rfl (by kernel_rfl)) rfl ?_
              case c7 => exact (set14 HR9.out).1
              exact HBAD.out _ g.out (K9.out.trans (set14 HR9.out).2)
end Go.Proofs.YthiliodmbipikaaGreat
