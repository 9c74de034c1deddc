import Derived.Test.YtohplhahghilaaaChkV
import Derived.Test.YtohplhahghilaaaChkZ
import Derived.Test.YtohplhahghilaaaChkDig
import Derived.Lib.SmallJoins
/-
  Layer 7, the document's: a text's chunks: the contract.
-/
set_option linter.unusedVariables false
set_option linter.unusedSimpArgs false
namespace Go.Proofs.Ytohplhahghilaaa
open Go.RowKit
attribute [local go_sem] ByteArray.extract_mk ByteArray.mk_append_mk

theorem strInfo : (Try.prog.info? 9).map (fun i => (i.zero, i.size, i.bytes)) = some (some (.string (S [])), 1, 16) := by kernel_rfl
/-- Texts, one in each cell of a block. -/
def StrsAt (w : World) (g N : Nat) (f : Nat → List UInt8) : Prop := g < w.heap.size ∧ ∀ i, i < N → w.cell? ⟨g, i, none⟩ = some (.string (S (f i)))
theorem StrsAt.kept {w W : World} {g N : Nat} {f : Nat → List UInt8} {bs : List Nat} (h : StrsAt w g N f) (k : Kept bs w W) (hg : g ∉ bs) : StrsAt W g N f :=
  ⟨Nat.lt_of_lt_of_le h.1 k.size, fun i hi => (k.cell h.1 hg i).trans (h.2 i hi)⟩
theorem StrsAt.below {w W : World} {g N : Nat} {f : Nat → List UInt8} (h : StrsAt w g N f) (b : Below w.heap.size w W) : StrsAt W g N f := h.kept (Kept.ofBelow b []) (by simp)
theorem strs_own {w : World} {B N : Nat} {v : Value} {f : Nat → List UInt8} (h : w.ownsRow B 9 1 v N ((List.range N).map fun i => Value.string (S (f i)))) (hN : 0 < N) :
    ∃ g cap, v = .slice (some ⟨g, 0, none⟩) N cap ∧ B ≤ g ∧ N ≤ cap ∧ StrsAt w g N f := by
  rcases id h.2 with ⟨rfl, h0⟩ | ⟨g, cap, cur, rfl, hbg, hg, hcap, rest⟩
  · omega
  · refine ⟨g, cap, rfl, hbg, hcap, (Array.getElem?_eq_some_iff.1 hg).1, fun i hi => ?_⟩
    have := h.cellAt i (by omega)
    rw [this]
    simp [hi]
theorem news_str {W : World} (x : List UInt8) {s : Nat} (hs : W.heap.size = s) : ∀ j u, [Value.string (S x)][j]? = some u → (W.alloc (.cells #[.string (S x)] 9)).cell? ((⟨s, 0, none⟩ : Addr).add j) = some u := by
  subst hs
  exact World.news_of_block (cs := #[.string (S x)]) (t := 9) (fr := (0, 0)) (heap_alloc_new W _)
theorem count_lt {len size k : Nat} (h1 : 1 ≤ size) : k < (len + size - 1) / size ↔ k * size < len := by
  rw [Nat.lt_div_iff_mul_lt (by omega)]
  omega
set_option maxHeartbeats 4000000 in
set_option maxRecDepth 100000 in
theorem rsplit7_ok (s : List UInt8) (size : Nat) (w : World) (h1 : 1 ≤ size) (h2 : size ≤ 4096) (hs : s.length ≤ 4096) (hs0 : s ≠ []) : ChksCall 20 #[.string (S s), .int .i64 (size : Int)] w (chunksOf s size) 0 := by
  refine ChksCall.intro fun R hR => ?_
  obtain ⟨i0, hi, hz0, hz1, hz2⟩ := info_parts chkInfo
  obtain ⟨j0, hj, hy0, hy1, hy2⟩ := info_parts strInfo
  have g1 : ¬ (size : Int) < 1 := by omega
  have g2 : ¬ (4096 : Int) < (size : Int) := by omega
  have hpos := List.length_pos_iff.2 hs0
  obtain ⟨N, hN⟩ : ∃ N, splitN s.length size = N := ⟨_, rfl⟩
  have hNq : N = (s.length + size - 1) / size := by
    have h3 := (count_lt (len := s.length) (size := size) (k := 0) h1).2 (by omega)
    unfold splitN at hN
    omega
  have hcount := fun k => count_lt (len := s.length) (size := size) (k := k) h1
  rw [← hNq] at hcount
  have hN4 := splitN_le (len := s.length) h1
  rw [hN] at hN4
  have HC := Lib.hid hcount
  have HN := Lib.hid hN
  have CD := Lib.hid (fun w => rdigest7 s w (by omega))
  clear hcount hNq hN
  go_enter Try.func20, Try.ntmps20
  go_wp2_with fail
  go_loopw [6, 7] (fun (v6 v7 : Value) (W : World) => ∃ k : Nat, k ≤ N ∧ v7 = .int .i64 ((k * size : Nat) : Int) ∧ W.ownsRow w.heap.size 9 1 v6 k ((List.range k).map fun i => Value.string (S (piece s size i))) ∧ Below w.heap.size w W) (fun (v6 v7 : Value) (W : World) => (s.length - intOf v7).toNat)
  case atStart =>
    refine ⟨0, by omega, by simp, ?_, below_all (Below.refl _ _)⟩
    exact World.ownsRow_lit (base := w.heap.size) (e := 9) (size := 1) w #[] 0 (Nat.le_refl _) (by unfold maxLen; decide) rfl
  case round =>
    obtain ⟨k, hk, rfl, hown, hnx⟩ := hrel
    by_cases hkN : k < N
    · have hlt := (HC.out k).1 hkN
      have hpc : piece s size k = (s.drop (k * size)).take (min s.length (k * size + size) - k * size) := by unfold piece; rw [Nat.add_mul, Nat.one_mul]
      have hke : k * size + size = (k + 1) * size := by rw [Nat.add_mul, Nat.one_mul]
      have HKE := Lib.hid hke
      have HPC := Lib.hid hpc
      obtain ⟨a, ha⟩ : ∃ a, k * size = a := ⟨_, rfl⟩
      rw [ha] at hlt HPC HKE ⊢
      have hb1 : (a : Int) < (s.length : Int) := by omega
      have hb2 : (0 : Int) ≤ (a : Int) := by omega
      have e1 : IntKind.i64.wrap ((a : Int) + (size : Int)) = (a : Int) + (size : Int) := by rw [IntKind.wrap_i64]; omega
      have zz := hnx.size
      obtain ⟨M, hM⟩ : ∃ M, min s.length (a + size) = M := ⟨_, rfl⟩
      have q1 : (min (s.length : Int) ((a : Int) + (size : Int))).toNat = M := by omega
      have q2 : (a : Int) ≤ min (s.length : Int) ((a : Int) + (size : Int)) := by omega
      rw [hM] at HPC
      clear hpc hke ha hM
      have hown2 := World.ownsRow.alloc hown (.cells #[.string (S ((s.drop a).take (M - a)))] 9)
      have hne := news_str (W := wr) ((s.drop a).take (M - a)) rfl
      go_wp2_with (at_builtin; refine wpList_append_own_at _ rfl _ _ 105 rfl w.heap.size 9 j0 _ 1 16 Try.underlying105 hj hy0 hy1 hy2 rfl (by decide) _ _ _ rfl hown2 ⟨wr.heap.size, 0, none⟩ 1 1 [.string (S ((s.drop a).take (M - a)))] rfl rfl hne (by simp [Value.oneCell']) (by unfold maxLen; omega) (by omega) (by simp; omega) ?_)
      intro va5 w5 o5 g5 z7 at5
      have G6 : Below w.heap.size w w5 := Kept.below (below_all (o := .cells #[.string (S ((s.drop a).take (M - a)))] 9) hnx) (Kept.ofGrown g5) (by intro x hx; simp only [Option.mem_toList] at hx; exact (hown2.lt x hx).1) (by simp; omega)
      have O6 : w5.ownsRow w.heap.size 9 1 va5 (k + 1) ((List.range (k + 1)).map fun i => Value.string (S (piece s size i))) := by
        rw [List.range_succ, List.map_append]
        simp only [List.map_cons, List.map_nil, HPC.out]
        exact o5
      clear g5 z7 at5 o5 hown2 hne q1 q2
      go_wp2_with fail
      go_roundw
      case rel => exact ⟨k + 1, by omega, by rw [← HKE.out]; exact veq_int (by omega), O6, G6⟩
      case measure => first | (simp [intOf]; done) | (simp [intOf]; omega)
    · obtain rfl : k = N := by omega
      have hge : ¬ k * size < s.length := fun h => hkN ((HC.out k).2 h)
      obtain ⟨a, ha⟩ : ∃ a, k * size = a := ⟨_, rfl⟩
      rw [ha] at hge ⊢
      have hg0 : ¬ (a : Int) < (s.length : Int) := by omega
      have hs1 : ((s.length : Int) == 0) = false := by simp; omega
      have hs2 : (s = []) = False := eq_false hs0
      have hk1 : ¬ (4096 : Int) < (k : Int) := by omega
      clear ha hge hkN
      have hN1 : 0 < k := by have := (HC.out 0).2 (by omega); omega
      obtain ⟨g, cap, rfl, hg1, hg2, hst⟩ := strs_own hown hN1
      have HB1 := Lib.hid hnx
      clear hown
      go_wp2_with fail
      refine (CD.out _).use ?_
      intro w2 b2
      have S2 := (hst.below (below_all (o := .cells #[] 38) (Below.refl _ _))).below b2
      have B2 : Below w.heap.size w w2 := below_any (Nat.le_refl _) (below_all (o := .cells #[] 38) HB1.out) b2
      have o2 : w2.ownsRow wr.heap.size 38 4 (.slice (some ⟨wr.heap.size, 0, none⟩) 0 0) 0 [] := own_keptBy (World.ownsRow_lit (base := wr.heap.size) (e := 38) (size := 4) wr #[] 0 (Nat.le_refl _) (by unfold maxLen; decide) rfl) (Kept.ofBelow b2 []) (away_nil _)
      have z2 : wr.heap.size ≤ w2.heap.size := by have := b2.size; simp at this; omega
      have hgr := hst.1
      have hzw := HB1.out.size
      obtain ⟨d, hd⟩ : ∃ d, digest s = d := ⟨_, rfl⟩
      have hch : ∀ k, chunkOf s size k = ⟨(k : Int), (splitN s.length size : Nat), d, piece s size k⟩ := fun k => by rw [← hd]; rfl
      have htk := fun (k : Nat) => Lib.hid (fun hk => chunksOf_take s size (k := k) hk)
      have hcl := Lib.hid (chunksOf_len s size)
      rw [hd]
      rw [HN.out] at hcl
      have HCHT : ∀ j, j < k → Hid ((chunksOf s size).take (j + 1) = (chunksOf s size).take j ++ [(⟨(j : Int), (k : Nat), d, piece s size j⟩ : Chk)]) := fun j hj => Lib.hid (by rw [(htk j).out (by rw [HN.out]; exact hj), hch, HN.out])
      clear hch htk hst b2 hd
      generalize chunksOf s size = L at *
      go_wp2_with fail
      clear hs1 hs2 hg0 hk1
      generalize piece s size = pf at *
      have HCH := Lib.hid HCHT
      clear HCHT HB1 hnx
      generalize wr.heap.size = X at *
      go_loopw [8, 10] (fun (v8 v10 : Value) (W : World) => ∃ j : Nat, j ≤ k ∧ v10 = .int .i64 (j : Int) ∧ W.ownsRow X 38 4 v8 j ((L.take j).flatMap Chk.cells) ∧ StrsAt W g k pf ∧ X ≤ W.heap.size ∧ Below w.heap.size w W) (fun (v8 v10 : Value) (W : World) => (k - intOf v10).toNat)
      case atStart => exact ⟨0, by omega, rfl, by simpa using o2, S2, z2, B2⟩
      case round =>
        obtain ⟨j, hjk, rfl, hown, hS, hX, hnx⟩ := hrel
        by_cases hjl : j < k
        · have hst := (HCH.out j hjl)
          have y0 := hS.2 j hjl
          have b1 : (0 : Int) ≤ (j : Int) := by omega
          have b2 : (j : Int) < (k : Int) := by omega
          have e6 : IntKind.i64.wrap ((j : Int) + 1) = (j : Int) + 1 := by rw [IntKind.wrap_i64]; omega
          have zz := hnx.size
          have hown2 := World.ownsRow.alloc hown (.cells #[.int .i64 (j : Int), .int .i64 (k : Int), .int .u64 (d : Int), .string (S (pf j))] 38)
          have hne := news_chk (W := wr) ⟨(j : Int), (k : Nat), d, pf j⟩ rfl
          go_wp2_with (at_builtin; refine wpList_append_own_at _ rfl _ _ 39 rfl X 38 i0 _ 4 40 Try.underlying39 hi hz0 hz1 hz2 rfl (by decide) _ _ _ rfl hown2 ⟨wr.heap.size, 0, none⟩ 1 1 (Chk.cells ⟨(j : Int), (k : Nat), d, pf j⟩) rfl rfl hne (by simp [Value.oneCell', Chk.cells]) (by unfold maxLen; omega) (by omega) (by simp; omega) ?_)
          intro va5 w5 o5 g5 z7 at5
          have S6 := (hS.below (below_all (o := .cells #[.int .i64 (j : Int), .int .i64 (k : Int), .int .u64 (d : Int), .string (S (pf j))] 38) (Below.refl _ _))).kept (Kept.ofGrown g5) (by intro hx; simp only [Option.mem_toList] at hx; have := (hown2.lt _ hx).1; omega)
          have G6 : Below w.heap.size w w5 := Kept.below (below_all (o := .cells #[.int .i64 (j : Int), .int .i64 (k : Int), .int .u64 (d : Int), .string (S (pf j))] 38) hnx) (Kept.ofGrown g5) (by intro x hx; simp only [Option.mem_toList] at hx; have := (hown2.lt x hx).1; omega) (by simp; omega)
          have X6 : X ≤ w5.heap.size := Nat.le_trans hX (by have := (Kept.ofGrown g5).size; simp at this; omega)
          have O6 : w5.ownsRow X 38 4 va5 (j + 1) ((L.take (j + 1)).flatMap Chk.cells) := by rw [hst.out, List.flatMap_append]; simpa using o5
          clear g5 z7 at5 o5 hown2 hne
          go_wp2_with fail
          go_roundw
          case rel => exact ⟨j + 1, by omega, by go_num, O6, S6, X6, G6⟩
          case measure => first | (simp [intOf]; done) | (simp [intOf]; omega)
        · obtain rfl : j = k := by omega
          rw [List.take_of_length_le (by rw [hcl.out]; omega)] at hown
          have hown := Go.Joins.ownsRow_le hown hzw
          rw [← hcl.out] at hown
          have HO := Lib.hid hown
          obtain ⟨va, vc, rfl⟩ := own_form hown
          clear hown
          go_wp2_with fail
          exact hR.out _ _ HO.out hnx
set_option maxHeartbeats 4000000 in
set_option maxRecDepth 100000 in
theorem rsplit7_nil (size : Nat) (w : World) (h1 : 1 ≤ size) (h2 : size ≤ 4096) : ChksCall 20 #[.string (S []), .int .i64 (size : Int)] w (chunksOf [] size) 0 := by
  refine ChksCall.intro fun R hR => ?_
  obtain ⟨i0, hi, hz0, hz1, hz2⟩ := info_parts chkInfo
  have g1 : ¬ (size : Int) < 1 := by omega
  have g2 : ¬ (4096 : Int) < (size : Int) := by omega
  obtain ⟨d, hd⟩ : ∃ d, digest [] = d := ⟨_, rfl⟩
  have CD := Lib.hid (fun w => (rdigest7 [] w (by decide)).cast (v' := .int .u64 (d : Nat)) (by rw [hd]))
  have hN : splitN 0 size = 1 := by
    unfold splitN
    have : (0 + size - 1) / size = 0 := Nat.div_eq_of_lt (by omega)
    omega
  have hL : chunksOf [] size = [⟨0, 1, d, []⟩] := by
    unfold chunksOf chunkOf
    simp [hN, hd, piece]
  rw [hL] at hR
  clear hL hN hd
  go_enter Try.func20, Try.ntmps20
  go_wp2_with fail
  refine wp_loop_rounds 1 ?_
  rw [rounds_succ]
  go_wp2_with fail
  refine (CD.out _).use ?_
  intro w2 b2
  have S2 : StrsAt w2 (w.heap.size + 1) 1 (fun _ => []) := by
    refine StrsAt.below ⟨by simp, fun i hi => ?_⟩ b2
    obtain rfl : i = 0 := by omega
    have h := cell_of_row ((w.alloc (.cells #[] 9)).alloc (.cells #[.string (S [])] 9)) (w.heap.size + 1) 0 #[.string (S [])] 9 (0, 0) (by have := World.alloc_heap_new (w.alloc (.cells #[] 9)) (.cells #[.string (S [])] 9); rwa [World.size_alloc] at this)
    have h2 := (below_all (o := .cells #[] 38) (Below.refl _ ((w.alloc (.cells #[] 9)).alloc (.cells #[.string (S [])] 9)))).cell (p := ⟨w.heap.size + 1, 0, none⟩) (by simp)
    exact h2.trans h
  have B2 : Below w.heap.size w w2 := below_any (by simp) (below_all (below_all (below_all (Below.refl _ _)))) b2
  obtain ⟨X, hX⟩ : ∃ X, w.heap.size + 1 + 1 = X := ⟨_, rfl⟩
  have o2 : w2.ownsRow X 38 4 (.slice (some ⟨X, 0, none⟩) 0 0) 0 [] := by
    have h := World.ownsRow_lit (base := X) (e := 38) (size := 4) ((w.alloc (.cells #[] 9)).alloc (.cells #[.string (S [])] 9)) #[] 0 (by rw [← hX]; simp) (by unfold maxLen; decide) rfl
    rw [World.size_alloc, World.size_alloc, hX] at h
    exact own_keptBy h (Kept.ofBelow b2 []) (away_nil _)
  have z2 : X ≤ w2.heap.size := by have := b2.size; simp at this; omega
  have hgr : w.heap.size + 1 < X := by omega
  have hzw : w.heap.size ≤ X := by omega
  rw [hX]
  clear hX b2
  obtain ⟨L, hL⟩ : ∃ L, [(⟨0, 1, d, []⟩ : Chk)] = L := ⟨_, rfl⟩
  have hcl := Lib.hid (show L.length = 1 by rw [← hL]; rfl)
  rw [hL] at hR
  go_wp2_with fail
  go_loopw [8, 10] (fun (v8 v10 : Value) (W : World) => ∃ j : Nat, j ≤ 1 ∧ v10 = .int .i64 (j : Int) ∧ W.ownsRow X 38 4 v8 j ((L.take j).flatMap Chk.cells) ∧ StrsAt W (w.heap.size + 1) 1 (fun _ => []) ∧ X ≤ W.heap.size ∧ Below w.heap.size w W) (fun (v8 v10 : Value) (W : World) => (1 - intOf v10).toNat)
  case atStart => exact ⟨0, by omega, rfl, by simpa using o2, S2, z2, B2⟩
  case round =>
    obtain ⟨j, hjk, rfl, hown, hS, hX, hnx⟩ := hrel
    by_cases hjl : j < 1
    · obtain rfl : j = 0 := by omega
      have hst : L.take (0 + 1) = L.take 0 ++ [(⟨((0 : Nat) : Int), 1, d, []⟩ : Chk)] := by rw [← hL]; rfl
      have y0 := hS.2 0 (by decide)
      have b1 : (0 : Int) ≤ 0 := by omega
      have b2 : 0 < 1 := by omega
      have e6 : IntKind.i64.wrap 1 = 1 := by rw [IntKind.wrap_i64]; omega
      have zz := hnx.size
      have hown2 := World.ownsRow.alloc hown (.cells #[.int .i64 0, .int .i64 1, .int .u64 (d : Int), .string (S ([]))] 38)
      have hne := news_chk (W := wr) ⟨0, 1, d, []⟩ rfl
      go_wp2_with (at_builtin; refine wpList_append_own_at _ rfl _ _ 39 rfl X 38 i0 _ 4 40 Try.underlying39 hi hz0 hz1 hz2 rfl (by decide) _ _ _ rfl hown2 ⟨wr.heap.size, 0, none⟩ 1 1 (Chk.cells ⟨0, 1, d, []⟩) rfl rfl hne (by simp [Value.oneCell', Chk.cells]) (by unfold maxLen; omega) (by omega) (by simp; omega) ?_)
      intro va5 w5 o5 g5 z7 at5
      have S6 := (hS.below (below_all (o := .cells #[.int .i64 0, .int .i64 1, .int .u64 (d : Int), .string (S ([]))] 38) (Below.refl _ _))).kept (Kept.ofGrown g5) (by intro hx; simp only [Option.mem_toList] at hx; have := (hown2.lt _ hx).1; omega)
      have G6 : Below w.heap.size w w5 := Kept.below (below_all (o := .cells #[.int .i64 0, .int .i64 1, .int .u64 (d : Int), .string (S ([]))] 38) hnx) (Kept.ofGrown g5) (by intro x hx; simp only [Option.mem_toList] at hx; have := (hown2.lt x hx).1; omega) (by simp; omega)
      have X6 : X ≤ w5.heap.size := Nat.le_trans hX (by have := (Kept.ofGrown g5).size; simp at this; omega)
      have O6 : w5.ownsRow X 38 4 va5 1 ((L.take 1).flatMap Chk.cells) := by rw [hst, List.flatMap_append]; simpa using o5
      clear g5 z7 at5 o5 hown2 hne
      go_wp2_with fail
      go_roundw
      case rel => exact ⟨1, by omega, by go_num, O6, S6, X6, G6⟩
      case measure => first | (simp [intOf]; done) | (simp [intOf]; omega)
    · obtain rfl : j = 1 := by omega
      rw [List.take_of_length_le (by rw [hcl.out]; omega)] at hown
      have hown := Go.Joins.ownsRow_le hown hzw
      rw [← hcl.out] at hown
      have HO := Lib.hid hown
      obtain ⟨va, vc, rfl⟩ := own_form hown
      clear hown
      go_wp2_with fail
      exact hR.out _ _ HO.out hnx
theorem rsplit7 (s : List UInt8) (size : Int) (w : World) (hs : s.length ≤ 4096) : ChksCall 20 #[.string (S s), .int .i64 size] w (if serr s size = 0 then chunksOf s size.toNat else []) (serr s size) := by
  by_cases h : size < 1 ∨ 4096 < size
  · have e : serr s size = 1 := by unfold serr; rw [if_pos h]
    rw [e]
    refine ChksCall.intro fun R hR => ?_
    go_enter Try.func20, Try.ntmps20
    by_cases h1 : size < 1
    · go_wp2_with fail
      exact hR.out _ _ (World.ownsRow_nil _ _ _ _) (Below.refl _ _)
    · have h2 : (4096 : Int) < size := by omega
      go_wp2_with fail
      exact hR.out _ _ (World.ownsRow_nil _ _ _ _) (Below.refl _ _)
  · obtain ⟨k, rfl⟩ := Int.eq_ofNat_of_zero_le (show 0 ≤ size by omega)
    have h1 : 1 ≤ k := by omega
    have h2 := splitN_le (len := s.length) h1
    have e : serr s k = 0 := by unfold serr; rw [if_neg h, Int.toNat_natCast, if_neg (by omega)]
    rw [e, if_pos rfl, Int.toNat_natCast]
    by_cases hs0 : s = []
    · subst hs0; exact rsplit7_nil k w h1 (by omega)
    · exact rsplit7_ok s k w h1 (by omega) hs hs0
end Go.Proofs.Ytohplhahghilaaa
