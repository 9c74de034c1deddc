import Derived.Test.YtohplhahghilaaaChkC
import Derived.Test.YtohplhahghilaaaSeg1
import Derived.Deep.AppendLies
/-
  Layer 7: a text's chunks: the contract.
-/
set_option linter.unusedVariables false
set_option linter.unusedSimpArgs false
namespace Go.Proofs.Ytohplhahghilaaa
open Go.RowKit
attribute [local go_sem] ByteArray.extract_mk ByteArray.mk_append_mk

theorem chkInfo : (Try.prog.info? 38).map (fun i => (i.zero, i.size, i.bytes)) = some (some (.agg #[.int .i64 0, .int .i64 0, .int .u64 0, .string (S [])]), 4, 40) := by kernel_rfl
/-- Chunks, handed back in a row of the caller's own, with an error. -/
def ChksCall (f : FuncId) (args : Array Value) (w : World) (l : List Chk) (e : Nat) : Prop :=
  Calls Try.prog f args w fun x w' => ∃ v, x = .returned (.tuple #[v, .int .i64 (e : Int)]) ∧ w'.ownsRow w.heap.size 38 4 v l.length (l.flatMap Chk.cells) ∧ Below w.heap.size w w'
theorem ChksCall.intro {f : FuncId} {args : Array Value} {w : World} {l : List Chk} {e : Nat}
    (h : ∀ R : Ending → World → Prop, Hid (∀ v w', w'.ownsRow w.heap.size 38 4 v l.length (l.flatMap Chk.cells) → Below w.heap.size w w' → R (.returned (.tuple #[v, .int .i64 (e : Int)])) w') → Calls Try.prog f args w R) : ChksCall f args w l e :=
  h _ fun v w' h1 h2 => ⟨v, rfl, h1, h2⟩
theorem ChksCall.use {f : FuncId} {args : Array Value} {w : World} {l : List Chk} {e : Nat} {R : Ending → World → Prop} (h : ChksCall f args w l e)
    (k : ∀ v w', w'.ownsRow w.heap.size 38 4 v l.length (l.flatMap Chk.cells) → Below w.heap.size w w' → R (.returned (.tuple #[v, .int .i64 (e : Int)])) w') : Calls Try.prog f args w R :=
  h.mono fun x w' ⟨v, he, h1, h2⟩ => by subst he; exact k v w' h1 h2

set_option maxHeartbeats 2000000 in
set_option maxRecDepth 100000 in
theorem split7_arg (s : List UInt8) (size : Int) (w : World) (h : size < 1 ∨ 4096 < size) : ChksCall 19 #[.string (S s), .int .i64 size] w [] 1 := by
  refine ChksCall.intro fun R hR => ?_
  go_enter Try.func19, Try.ntmps19
  rcases h with h | h
  · go_wp2_with fail
    exact hR.out _ _ (World.ownsRow_nil _ _ _ _) (Below.refl _ _)
  · have h1 : ¬ size < 1 := by omega
    go_wp2_with fail
    exact hR.out _ _ (World.ownsRow_nil _ _ _ _) (Below.refl _ _)

theorem split_lo {len size k : Nat} (h1 : 1 ≤ size) (hk : k < splitN len size) : k * size ≤ len := by
  unfold splitN at hk
  by_cases h0 : k = 0
  · subst h0; omega
  · have h2 : k + 1 ≤ (len + size - 1) / size := by omega
    have h3 := Nat.mul_le_mul_right size h2
    have h4 := Nat.div_mul_le_self (len + size - 1) size
    rw [Nat.add_mul] at h3
    omega
theorem chunksOf_take (s : List UInt8) (size : Nat) {k : Nat} (hk : k < splitN s.length size) : (chunksOf s size).take (k + 1) = (chunksOf s size).take k ++ [chunkOf s size k] := by
  rw [List.take_succ_eq_append_getElem (by rw [chunksOf_len]; exact hk)]
  simp [chunksOf]
theorem news_chk {W : World} (c : Chk) {n : Nat} (hs : W.heap.size = n) : ∀ j u, c.cells[j]? = some u → (W.alloc (.cells c.cells.toArray 38)).cell? ((⟨n, 0, none⟩ : Addr).add j) = some u := by
  subst hs
  exact World.news_of_block (cs := c.cells.toArray) (t := 38) (fr := (0, 0)) (heap_alloc_new W _)

set_option maxHeartbeats 2000000 in
set_option maxRecDepth 100000 in
theorem split7_ok (s : List UInt8) (size : Nat) (w : World) (h1 : 1 ≤ size) (h2 : size ≤ 4096) (hs : s.length ≤ 1000000) (h3 : splitN s.length size ≤ 4096) : ChksCall 19 #[.string (S s), .int .i64 (size : Int)] w (chunksOf s size) 0 := by
  refine ChksCall.intro fun R hR => ?_
  obtain ⟨i0, hi, hz0, hz1, hz2⟩ := info_parts chkInfo
  have g1 : ¬ (size : Int) < 1 := by omega
  have g2 : ¬ (4096 : Int) < (size : Int) := by omega
  have e1 : IntKind.i64.wrap ((s.length : Int) + (size : Int)) = ((s.length : Int) + (size : Int)) := by rw [IntKind.wrap_i64]; omega
  have e2 : IntKind.i64.wrap ((s.length : Int) + (size : Int) - 1) = ((s.length : Int) + (size : Int) - 1) := by rw [IntKind.wrap_i64]; omega
  have cd := fun w => digest7 s w (by omega)
  have hlo := fun (k : Nat) => Lib.hid (fun hk => split_lo (k := k) (len := s.length) h1 hk)
  have htk := fun (k : Nat) => Lib.hid (fun hk => chunksOf_take s size (k := k) hk)
  have hcl := Lib.hid (chunksOf_len s size)
  have hch : ∀ k, chunkOf s size k = ⟨(k : Int), (splitN s.length size : Nat), digest s, piece s size k⟩ := fun k => rfl
  have e3 : ((s.length : Int) + (size : Int) - 1) / (size : Int) = (((s.length + size - 1) / size : Nat) : Int) := by
    rw [Int.natCast_ediv]; congr 1; omega
  have hNd : splitN s.length size = max 1 ((s.length + size - 1) / size) := rfl
  obtain ⟨N, hN⟩ : ∃ N, splitN s.length size = N := ⟨_, rfl⟩
  rw [hN] at hlo htk hcl hNd h3 hch
  generalize (s.length + size - 1) / size = q at e3 hNd
  generalize digest s = d at *
  generalize hL : chunksOf s size = L at *
  clear hL hN
  by_cases hq : 1 < q
  · obtain rfl : N = q := by omega
    have q1 : (1 : Int) < (N : Int) := by omega
    have q2 : ¬ (4096 : Int) < (N : Int) := by omega
    clear hNd hq
    go_enter Try.func19, Try.ntmps19
    go_wp2_with fail
    refine (cd _).use ?_
    intro w1 b1
    go_wp2_with fail
    clear e1 e2 e3 cd q1 q2
    go_loopw [8, 9, 29] (fun (v8 v9 v29 : Value) (W : World) => ∃ k : Nat, k ≤ N ∧ v29 = .int .i64 (k : Int) ∧ W.ownsRow w.heap.size 38 4 v8 k ((L.take k).flatMap Chk.cells) ∧ Below w.heap.size w W) (fun (v8 v9 v29 : Value) (W : World) => (N - intOf v29).toNat)
    case atStart => exact ⟨0, by omega, rfl, World.ownsRow_nil _ _ _ _, b1⟩
    case round =>
      obtain ⟨k, hk, rfl, hown, hnx⟩ := hrel
      by_cases hkN : k < N
      · have h5 := (hlo k).out hkN
        have h6 := Lib.hid ((htk k).out hkN)
        have h7 := Lib.hid (hch k)
        have e4 : IntKind.i64.wrap ((k : Int) * (size : Int)) = ((k * size : Nat) : Int) := by rw [IntKind.wrap_i64, ← Int.natCast_mul]; omega
        have e5 : IntKind.i64.wrap (((k : Int) + 1) * (size : Int)) = ((k * size + size : Nat) : Int) := by
          rw [IntKind.wrap_i64, show ((k : Int) + 1) * (size : Int) = ((k * size + size : Nat) : Int) by rw [Int.natCast_add, Int.natCast_mul, Int.add_mul, Int.one_mul]]
          omega
        have e6 : IntKind.i64.wrap ((k : Int) + 1) = (k : Int) + 1 := by rw [IntKind.wrap_i64]; omega
        have hpc : piece s size k = (s.drop (k * size)).take (min s.length (k * size + size) - k * size) := by unfold piece; rw [Nat.add_mul, Nat.one_mul]
        rw [hpc] at h7
        generalize k * size = a at *
        clear hpc hlo htk hch
        have z5 : w.heap.size ≤ wr.heap.size := hnx.size
        by_cases h8 : a + size < s.length
        · have h9 : ((a + size : Nat) : Int) < (s.length : Int) := by omega
          have h10 : (a : Int) ≤ ((a + size : Nat) : Int) := by omega
          have h11 : (0 : Int) ≤ (a : Int) := by omega
          rw [show min s.length (a + size) - a = size by omega] at h7
          have hown2 := World.ownsRow.alloc hown (.cells #[.int .i64 (k : Int), .int .i64 (N : Int), .int .u64 (d : Int), .string (S ((s.drop a).take size))] 38)
          have hne := news_chk (W := wr) ⟨(k : Int), (N : Int), d, (s.drop a).take size⟩ rfl
          go_wp2_with (at_builtin; refine wpList_append_own_at _ rfl _ _ 39 rfl w.heap.size 38 i0 _ 4 40 Try.underlying39 hi hz0 hz1 hz2 rfl (by decide) _ _ _ rfl hown2 ⟨wr.heap.size, 0, none⟩ 1 1 (Chk.cells ⟨(k : Int), (N : Int), d, (s.drop a).take size⟩) rfl rfl hne (by simp [Value.oneCell', Chk.cells]) (by unfold maxLen; omega) (by omega) (by simp; omega) ?_)
          intro va5 w5 o5 g5 z7 at5
          have G6 : Below w.heap.size w w5 := Kept.below (below_all (o := .cells #[.int .i64 (k : Int), .int .i64 (N : Int), .int .u64 (d : Int), .string (S ((s.drop a).take size))] 38) hnx) (Kept.ofGrown g5) (by intro x hx; simp only [Option.mem_toList] at hx; exact (hown2.lt x hx).1) (by simp; omega)
          have O6 : w5.ownsRow w.heap.size 38 4 va5 (k + 1) ((L.take (k + 1)).flatMap Chk.cells) := by rw [h6.out, List.flatMap_append, h7.out]; simpa using o5
          clear g5 z7 at5 o5 hown2 hne
          go_wp2_with fail
          go_roundw
          case rel => exact ⟨k + 1, by omega, by go_num, O6, G6⟩
          case measure => simp [intOf]; omega
        · have h9 : ¬ ((a + size : Nat) : Int) < (s.length : Int) := by omega
          have h10 : (a : Int) ≤ (s.length : Int) := by omega
          have h11 : (0 : Int) ≤ (a : Int) := by omega
          rw [show min s.length (a + size) - a = s.length - a by omega] at h7
          have hown2 := World.ownsRow.alloc hown (.cells #[.int .i64 (k : Int), .int .i64 (N : Int), .int .u64 (d : Int), .string (S ((s.drop a).take (s.length - a)))] 38)
          have hne := news_chk (W := wr) ⟨(k : Int), (N : Int), d, (s.drop a).take (s.length - a)⟩ rfl
          go_wp2_with (at_builtin; refine wpList_append_own_at _ rfl _ _ 39 rfl w.heap.size 38 i0 _ 4 40 Try.underlying39 hi hz0 hz1 hz2 rfl (by decide) _ _ _ rfl hown2 ⟨wr.heap.size, 0, none⟩ 1 1 (Chk.cells ⟨(k : Int), (N : Int), d, (s.drop a).take (s.length - a)⟩) rfl rfl hne (by simp [Value.oneCell', Chk.cells]) (by unfold maxLen; omega) (by omega) (by simp; omega) ?_)
          intro va5 w5 o5 g5 z7 at5
          have G6 : Below w.heap.size w w5 := Kept.below (below_all (o := .cells #[.int .i64 (k : Int), .int .i64 (N : Int), .int .u64 (d : Int), .string (S ((s.drop a).take (s.length - a)))] 38) hnx) (Kept.ofGrown g5) (by intro x hx; simp only [Option.mem_toList] at hx; exact (hown2.lt x hx).1) (by simp; omega)
          have O6 : w5.ownsRow w.heap.size 38 4 va5 (k + 1) ((L.take (k + 1)).flatMap Chk.cells) := by rw [h6.out, List.flatMap_append, h7.out]; simpa using o5
          clear g5 z7 at5 o5 hown2 hne
          go_wp2_with fail
          go_roundw
          case rel => exact ⟨k + 1, by omega, by go_num, O6, G6⟩
          case measure => simp [intOf]; omega
      · obtain rfl : k = N := by omega
        rw [List.take_of_length_le (by rw [hcl.out]; omega)] at hown
        have HO := Lib.hid hown
        obtain ⟨va, vc, rfl⟩ := own_form hown
        clear hown
        go_wp2_with fail
        exact hR.out _ _ (by rw [hcl.out]; exact HO.out) hnx
  · obtain rfl : N = 1 := by omega
    have q1 : ¬ (1 : Int) < (q : Int) := by omega
    have hch : ∀ k, chunkOf s size k = ⟨(k : Int), 1, d, piece s size k⟩ := hch
    clear hNd hq
    go_enter Try.func19, Try.ntmps19
    go_wp2_with fail
    refine (cd _).use ?_
    intro w1 b1
    go_wp2_with fail
    clear e1 e2 e3 cd q1
    go_loopw [8, 9, 29] (fun (v8 v9 v29 : Value) (W : World) => ∃ k : Nat, k ≤ 1 ∧ v29 = .int .i64 (k : Int) ∧ W.ownsRow w.heap.size 38 4 v8 k ((L.take k).flatMap Chk.cells) ∧ Below w.heap.size w W) (fun (v8 v9 v29 : Value) (W : World) => (1 - intOf v29).toNat)
    case atStart => exact ⟨0, by omega, rfl, World.ownsRow_nil _ _ _ _, b1⟩
    case round =>
      obtain ⟨k, hk, rfl, hown, hnx⟩ := hrel
      by_cases hkN : k < 1
      · have h5 := (hlo k).out hkN
        have h6 := Lib.hid ((htk k).out hkN)
        have h7 := Lib.hid (hch k)
        have e4 : IntKind.i64.wrap ((k : Int) * (size : Int)) = ((k * size : Nat) : Int) := by rw [IntKind.wrap_i64, ← Int.natCast_mul]; omega
        have e5 : IntKind.i64.wrap (((k : Int) + 1) * (size : Int)) = ((k * size + size : Nat) : Int) := by
          rw [IntKind.wrap_i64, show ((k : Int) + 1) * (size : Int) = ((k * size + size : Nat) : Int) by rw [Int.natCast_add, Int.natCast_mul, Int.add_mul, Int.one_mul]]
          omega
        have e6 : IntKind.i64.wrap ((k : Int) + 1) = (k : Int) + 1 := by rw [IntKind.wrap_i64]; omega
        have hpc : piece s size k = (s.drop (k * size)).take (min s.length (k * size + size) - k * size) := by unfold piece; rw [Nat.add_mul, Nat.one_mul]
        rw [hpc] at h7
        generalize k * size = a at *
        clear hpc hlo htk hch
        have z5 : w.heap.size ≤ wr.heap.size := hnx.size
        by_cases h8 : a + size < s.length
        · have h9 : ((a + size : Nat) : Int) < (s.length : Int) := by omega
          have h10 : (a : Int) ≤ ((a + size : Nat) : Int) := by omega
          have h11 : (0 : Int) ≤ (a : Int) := by omega
          rw [show min s.length (a + size) - a = size by omega] at h7
          have hown2 := World.ownsRow.alloc hown (.cells #[.int .i64 (k : Int), .int .i64 1, .int .u64 (d : Int), .string (S ((s.drop a).take size))] 38)
          have hne := news_chk (W := wr) ⟨(k : Int), 1, d, (s.drop a).take size⟩ rfl
          go_wp2_with (at_builtin; refine wpList_append_own_at _ rfl _ _ 39 rfl w.heap.size 38 i0 _ 4 40 Try.underlying39 hi hz0 hz1 hz2 rfl (by decide) _ _ _ rfl hown2 ⟨wr.heap.size, 0, none⟩ 1 1 (Chk.cells ⟨(k : Int), 1, d, (s.drop a).take size⟩) rfl rfl hne (by simp [Value.oneCell', Chk.cells]) (by unfold maxLen; omega) (by omega) (by simp; omega) ?_)
          intro va5 w5 o5 g5 z7 at5
          have G6 : Below w.heap.size w w5 := Kept.below (below_all (o := .cells #[.int .i64 (k : Int), .int .i64 1, .int .u64 (d : Int), .string (S ((s.drop a).take size))] 38) hnx) (Kept.ofGrown g5) (by intro x hx; simp only [Option.mem_toList] at hx; exact (hown2.lt x hx).1) (by simp; omega)
          have O6 : w5.ownsRow w.heap.size 38 4 va5 (k + 1) ((L.take (k + 1)).flatMap Chk.cells) := by rw [h6.out, List.flatMap_append, h7.out]; simpa using o5
          clear g5 z7 at5 o5 hown2 hne
          go_wp2_with fail
          go_roundw
          case rel => exact ⟨k + 1, by omega, by go_num, O6, G6⟩
          case measure => simp [intOf]; omega
        · have h9 : ¬ ((a + size : Nat) : Int) < (s.length : Int) := by omega
          have h10 : (a : Int) ≤ (s.length : Int) := by omega
          have h11 : (0 : Int) ≤ (a : Int) := by omega
          rw [show min s.length (a + size) - a = s.length - a by omega] at h7
          have hown2 := World.ownsRow.alloc hown (.cells #[.int .i64 (k : Int), .int .i64 1, .int .u64 (d : Int), .string (S ((s.drop a).take (s.length - a)))] 38)
          have hne := news_chk (W := wr) ⟨(k : Int), 1, d, (s.drop a).take (s.length - a)⟩ rfl
          go_wp2_with (at_builtin; refine wpList_append_own_at _ rfl _ _ 39 rfl w.heap.size 38 i0 _ 4 40 Try.underlying39 hi hz0 hz1 hz2 rfl (by decide) _ _ _ rfl hown2 ⟨wr.heap.size, 0, none⟩ 1 1 (Chk.cells ⟨(k : Int), 1, d, (s.drop a).take (s.length - a)⟩) rfl rfl hne (by simp [Value.oneCell', Chk.cells]) (by unfold maxLen; omega) (by omega) (by simp; omega) ?_)
          intro va5 w5 o5 g5 z7 at5
          have G6 : Below w.heap.size w w5 := Kept.below (below_all (o := .cells #[.int .i64 (k : Int), .int .i64 1, .int .u64 (d : Int), .string (S ((s.drop a).take (s.length - a)))] 38) hnx) (Kept.ofGrown g5) (by intro x hx; simp only [Option.mem_toList] at hx; exact (hown2.lt x hx).1) (by simp; omega)
          have O6 : w5.ownsRow w.heap.size 38 4 va5 (k + 1) ((L.take (k + 1)).flatMap Chk.cells) := by rw [h6.out, List.flatMap_append, h7.out]; simpa using o5
          clear g5 z7 at5 o5 hown2 hne
          go_wp2_with fail
          go_roundw
          case rel => exact ⟨k + 1, by omega, by go_num, O6, G6⟩
          case measure => simp [intOf]; omega
      · obtain rfl : k = 1 := by omega
        rw [List.take_of_length_le (by rw [hcl.out]; omega)] at hown
        have HO := Lib.hid hown
        obtain ⟨va, vc, rfl⟩ := own_form hown
        clear hown
        go_wp2_with fail
        exact hR.out _ _ (by rw [hcl.out]; exact HO.out) hnx
end Go.Proofs.Ytohplhahghilaaa
