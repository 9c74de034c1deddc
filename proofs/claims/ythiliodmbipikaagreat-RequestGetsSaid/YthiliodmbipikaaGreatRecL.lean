/-
  Layer 3: the batch at a place: contract.
-/
import Derived.Test.YthiliodmbipikaaGreatRecY
set_option linter.unusedVariables false
set_option linter.unusedSimpArgs false
namespace Go.Proofs.YthiliodmbipikaaGreat
open Go.RowKit
attribute [local go_sem] ByteArray.extract_mk ByteArray.mk_append_mk

theorem PInv.row {w0 W W' : World} {rb ab ob : Nat} {s : List UInt8} {x0 x1 x2 x3 : Nat} {a e : Int} {v : Value} {l : List Rec} (h : PInv w0 rb ab ob s x0 x1 x2 x3 a e v l W) (hg : W.grownBy W' v.ownBlock) : Blk W' ob #[.int .i64 x0, .int .i64 x1, .int .i64 x2, v] 26 :=
  h.bt.grown hg (own_ne h.own h.bt (by decide))
/-- What the loop has still to do. -/
def PRel (s : List UInt8) (n : Nat) (a0 : Int) (j : Nat) (l : List Rec) (a e : Int) : Prop :=
  l.length = j ∧ ((e = 0 ∧ mrecs s n a0 = (l ++ (mrecs s (n - j) a).1, (mrecs s (n - j) a).2)) ∨ (e ≠ 0 ∧ (mrecs s n a0).2.2 = e))
theorem PRel.start (s : List UInt8) (n : Nat) (a0 : Int) : PRel s n a0 0 [] a0 0 := ⟨rfl, .inl ⟨rfl, by simp⟩⟩
theorem PRel.step {s : List UInt8} {n : Nat} {a0 : Int} {j : Nat} {l : List Rec} {a : Int} (h : PRel s n a0 j l a 0) (hj : j < n) :
    PRel s n a0 (j + 1) (l ++ [(mrec s a 0).1]) (mrec s a 0).2.1 (mrec s a 0).2.2 := by
  obtain ⟨h1, h2⟩ := h
  refine ⟨by simp [h1], ?_⟩
  rcases h2 with ⟨_, h2⟩ | ⟨h2, _⟩
  · have hn : n - j = (n - (j + 1)) + 1 := by omega
    rw [hn] at h2
    by_cases he : (mrec s a 0).2.2 = 0
    · refine .inl ⟨he, ?_⟩
      rw [h2, mrecs]
      simp [he]
    · refine .inr ⟨he, ?_⟩
      rw [h2, mrecs]
      simp [he]
  · exact absurd rfl h2
theorem PRel.stop {s : List UInt8} {n : Nat} {a0 : Int} {l : List Rec} {a : Int} (h : PRel s n a0 n l a 0) : mrecs s n a0 = (l, a, 0) := by
  obtain ⟨h1, h2 | h2⟩ := h
  · rw [h2.2, Nat.sub_self]; simp [mrecs]
  · exact absurd rfl h2.1
theorem PRel.fail {s : List UInt8} {n : Nat} {a0 : Int} {j : Nat} {l : List Rec} {a e : Int} (h : PRel s n a0 j l a e) (he : e ≠ 0) : (mrecs s n a0).2.2 = e := by
  obtain ⟨h1, h2 | h2⟩ := h
  · exact absurd h2.1 he
  · exact h2.2

theorem mparse_eq {s : List UInt8} {at_ a0 e0 : Int} {bg : Bool} {x0 x1 x2 x3 : Nat} {en : Int} (h : nst s at_ 4 = (a0, e0, bg, [x0, x1, x2, x3])) (hen : nerr (a0, e0, bg, [x0, x1, x2, x3]) = en) :
    mparse s at_ = if en ≠ 0 then ((0, 0, 0, []), 0, en) else if (mrecs s x3 a0).2.2 ≠ 0 then ((0, 0, 0, []), 0, (mrecs s x3 a0).2.2) else (((x0 : Int), (x1 : Int), (x2 : Int), (mrecs s x3 a0).1), (mrecs s x3 a0).2.1, 0) := by
  unfold mparse
  simp only [h, hen]
  rfl
/-- A batch that is handed back with a place and what is wrong; its records lie in memory. -/
def ParseCall (f : FuncId) (args : Array Value) (w : World) (m : (Int × Int × Int × List Rec) × Int × Int) : Prop :=
  Calls Tryz.prog f args w fun x w' => ∃ v, x = .returned (.tuple #[.agg #[.int .i64 m.1.1, .int .i64 m.1.2.1, .int .i64 m.1.2.2.1, v], .int .i64 m.2.1, .int .i64 m.2.2]) ∧ w'.ownsRow w.heap.size 35 4 v m.1.2.2.2.length (m.1.2.2.2.flatMap Rec.cells) ∧ Below w.heap.size w w'
theorem ParseCall.intro {f : FuncId} {args : Array Value} {w : World} {m : (Int × Int × Int × List Rec) × Int × Int}
    (h : ∀ R : Ending → World → Prop, Hid (∀ v w', w'.ownsRow w.heap.size 35 4 v m.1.2.2.2.length (m.1.2.2.2.flatMap Rec.cells) → Below w.heap.size w w' → R (.returned (.tuple #[.agg #[.int .i64 m.1.1, .int .i64 m.1.2.1, .int .i64 m.1.2.2.1, v], .int .i64 m.2.1, .int .i64 m.2.2])) w') → Calls Tryz.prog f args w R) : ParseCall f args w m :=
  h _ fun v w' h1 h2 => ⟨v, rfl, h1, h2⟩
theorem ParseCall.use {f : FuncId} {args : Array Value} {w : World} {m : (Int × Int × Int × List Rec) × Int × Int} {R : Ending → World → Prop} (h : ParseCall f args w m)
    (k : ∀ v w', w'.ownsRow w.heap.size 35 4 v m.1.2.2.2.length (m.1.2.2.2.flatMap Rec.cells) → Below w.heap.size w w' → R (.returned (.tuple #[.agg #[.int .i64 m.1.1, .int .i64 m.1.2.1, .int .i64 m.1.2.2.1, v], .int .i64 m.2.1, .int .i64 m.2.2])) w') : Calls Tryz.prog f args w R :=
  h.mono fun x w' ⟨v, he, h1, h2⟩ => by subst he; exact k v w' h1 h2

set_option maxHeartbeats 4000000 in
set_option maxRecDepth 100000 in
theorem parse3_any (s : List UInt8) (at_ : Int) (w : World) (hl : s.length ≤ maxLen) :
    ParseCall 101 #[.string (S s), .int .i64 at_] w (mparse s at_) := by
  refine ParseCall.intro fun R hR => ?_
  obtain ⟨i0, hi, hz0, hz1, hz2⟩ := info_parts recInfo
  have cN := fun b w (hr : Rd w b s at_ 0) => rd_numbers s at_ b w hr hl
  have cR := fun a b w (hr : Rd w b s a 0) => rd_record s a 0 b w hr hl
  have hll := nst_len s at_ 4
  have hme := @mparse_eq s at_
  generalize nst s at_ 4 = p at *
  obtain ⟨a0, e0, bg, ns⟩ := p
  simp only at hll
  match ns, hll with
  | [x0, x1, x2, x3], _ =>
    obtain ⟨en, hen⟩ : ∃ en, nerr (a0, e0, bg, [x0, x1, x2, x3]) = en := ⟨_, rfl⟩
    have hx3 : en = 0 → x3 ≤ 16 := by
      intro h; subst h; unfold nerr at hen; simp at hen; omega
    rw [hen] at cN
    rw [hme rfl hen] at hR
    clear hme
    have cN : ∀ b w, Rd w b s at_ 0 → RdCall 102 #[.pointer (some ⟨b, 0, none⟩)] w b s (.agg #[.int .i64 x0, .int .i64 x1, .int .i64 x2, .int .i64 x3]) a0 en := cN
    have CN := Lib.hid cN
    have CR := Lib.hid cR
    clear cN cR hen hl
    go_enter Tryz.func101, Tryz.ntmps101
    go_wp2_with fail
    refine (CN.out (w.heap.size + 1) _ (by have h := Blk.new (w.alloc (.cells #[.int .i64 0, .int .i64 0, .int .i64 0, .slice none 0 0] 26)) #[.string (S s), .int .i64 at_, .int .i64 0] 128; rw [World.size_alloc] at h; exact h)).use ?_
    intro w1 r1 g1
    have z1 : w.heap.size + 2 ≤ w1.heap.size := by have := g1.size; simpa using this
    have A1 := ((Blk.new w _ _).alloc _).grown g1 (by simp)
    have G1 : Below w.heap.size w w1 := below_own (below_all (below_all (Below.refl _ _))) (by omega) (by simp; omega) g1
    obtain ⟨q0, q1, q2, q3⟩ := Blk.c3 r1
    by_cases he : en = 0
    · subst he
      have hx3 := hx3 rfl
      rw [if_neg (by simp)] at hR
      go_wp2_with fail
      have I0 : PInv w (w.heap.size + 1) w1.heap.size (w1.heap.size + 1) s x0 x1 x2 x3 a0 0 (.slice none 0 0) [] ((w1.alloc (.cells #[.int .i64 x0, .int .i64 x1, .int .i64 x2, .int .i64 x3] 156)).alloc (.cells #[.int .i64 x0, .int .i64 x1, .int .i64 x2, .slice none 0 0] 26)) := by
        refine ⟨Blk.alloc (Blk.alloc r1 _) _, (Blk.new w1 _ _).alloc _, ?_, (A1.alloc _).alloc _, World.ownsRow_nil _ _ _ _, below_all (below_all G1), by omega, by omega, by omega⟩
        have h := Blk.new (w1.alloc (.cells #[.int .i64 x0, .int .i64 x1, .int .i64 x2, .int .i64 x3] 156)) #[.int .i64 x0, .int .i64 x1, .int .i64 x2, .slice none 0 0] 26
        rw [World.size_alloc] at h
        exact h
      clear q0 q1 q2 q3
      go_loopw [10] (fun (v10 : Value) (W : World) => ∃ (j : Nat) (l : List Rec) (v : Value) (a e : Int), v10 = .int .i64 (j : Int) ∧ j ≤ x3 ∧ Hid (PRel s x3 a0 j l a e) ∧ PInv w (w.heap.size + 1) w1.heap.size (w1.heap.size + 1) s x0 x1 x2 x3 a e v l W) (fun (v10 : Value) (W : World) => (x3 - intOf v10).toNat)
      case atStart => exact ⟨0, [], _, a0, 0, rfl, by omega, PRel.start _ _ _, I0⟩
      case round =>
        obtain ⟨j, l, v, a, e, rfl, hj, hrl, hI⟩ := hrel
        obtain ⟨k0, c0, c1, c2⟩ := Blk.c3 hI.rd
        obtain ⟨k1, d0, d1, d2, d3⟩ := hI.ar.c4
        obtain ⟨k2, b0, b1, b2, b3⟩ := hI.bt.c4
        obtain ⟨k3, s0, s1, s2, s3⟩ := hI.rs.c4
        have fb := fun i => Blk.frozen hI.bt i
        have fs := fun i => Blk.frozen hI.rs i
        by_cases he : e = 0
        · subst he
          by_cases hjx : j < x3
          · obtain ⟨⟨r, a2, e2⟩, hm⟩ : ∃ m, mrec s a 0 = m := ⟨_, rfl⟩
            have hst := PRel.step hrl.out hjx
            rw [hm] at hst
            have hln := hrl.out.1
            have CR2 : ∀ W, Rd W (w.heap.size + 1) s a 0 → RdCall 66 #[.pointer (some ⟨w.heap.size + 1, 0, none⟩)] W (w.heap.size + 1) s (.agg #[.bool r.hk, .string (S r.key), .bool r.tb, .string (S r.val)]) a2 e2 := fun W hW => by have h := CR.out a (w.heap.size + 1) W hW; rw [hm] at h; exact h
            have HST := Lib.hid hst
            have CR3 := Lib.hid CR2
            have hl16 : l.length + 1 ≤ 16 := by omega
            clear hst CR2 hm
            have HLN := Lib.hid hln
            clear hln
            go_wp2_with fail
            refine wp_region_any (by kernel_rfl) ?_
            try (change wpAny _ _ _ _ _ _ _ (World.drew _))
            refine wpAny_take (i := 0) (v := ?_) rfl (by kernel_rfl) (by kernel_rfl) (by kernel_rfl) (fun _ _ _ h => h) (Or.inl ⟨by kernel_rfl, ?_⟩) ?_
            rotate_left
            · intro w; go_simp
              try with_reducible rfl
            try simp only [Act.put, List.setIfInBounds_toArray, List.set_cons_zero, List.set_cons_succ]
            refine wpAny_take (i := 2) (v := ?_) rfl (by kernel_rfl) (by kernel_rfl) (by kernel_rfl) (fun _ _ _ h => h) (Or.inl ⟨by kernel_rfl, ?_⟩) ?_
            rotate_left
            · intro w; go_simp
              try with_reducible rfl
            try simp only [Act.put, List.setIfInBounds_toArray, List.set_cons_zero, List.set_cons_succ]
            refine wpAny_ready (rs := [1, 3]) (by kernel_rfl) (by simp) ?_
            refine AllReady.cons rfl (fun K hK => ?_) (AllReady.cons rfl (fun K hK => ?_) (AllReady.nil))
            · go_simp
              refine hK _ _ ?_
              clear hK K
              try simp only [Act.put, List.setIfInBounds_toArray, List.set_cons_zero, List.set_cons_succ]
              refine wpAny_ready (rs := [3]) (by kernel_rfl) (by simp) ?_
              refine AllReady.cons rfl (fun K hK => ?_) (AllReady.nil)
              · go_simp
                go_wp2_with (go_at_call 66; refine (CR3.out _ hI.drew.rd).use ?_; intro w2 r2 g2; have I2 := hI.drew.call r2 g2; obtain ⟨kk2, bb0, bb1, bb2, bb3⟩ := I2.bt.c4; have ff := fun i => Blk.frozen I2.bt i)
                try simp only [Act.put, List.setIfInBounds_toArray, List.set_cons_zero, List.set_cons_succ]
                refine wpAny_ready (rs := [4]) (by kernel_rfl) (by simp) ?_
                refine AllReady.cons rfl (fun K hK => ?_) (AllReady.nil)
                · go_simp
                  refine hK _ _ ?_
                  clear hK K
                  try simp only [Act.put, List.setIfInBounds_toArray, List.set_cons_zero, List.set_cons_succ]
                  refine wpAny_ready (rs := [5]) (by kernel_rfl) (by simp) ?_
                  refine AllReady.cons rfl (fun K hK => ?_) (AllReady.nil)
                  · refine step_append_lies _ (by rfl) _ _ _ (by rfl) w.heap.size 35 i0 _ 4 48 Tryz.underlying24 hi hz0 hz1 hz2 rfl (by omega) v l.length (l.flatMap Rec.cells) (by simp [Act.eval, Act.put]) (I2.own.alloc _) ⟨w2.heap.size, 0, none⟩ 1 1 r.cells (by simp [Act.eval, Act.put]) rfl (World.news_of_block (cs := r.cells.toArray) (t := 35) (fr := (0, 0)) (heap_alloc_new w2 _)) (by simp [Value.oneCell', Rec.cells]) (by omega) (by unfold maxLen; omega) (by omega) (by have := I2.below.size; simp; omega) (w2.heap.size + 1) (by simp) ?_; intro gg cap w3 hown3 hgrow3 hat3 hlt3; have bb4 := (I2.alloc _).row hgrow3; obtain ⟨kk4, dd0, dd1, dd2, dd3⟩ := bb4.c4; have ff4 := fun i => Blk.frozen bb4 i
                    refine hK _ _ ?_
                    clear hK K
                    try simp only [Act.put, List.setIfInBounds_toArray, List.set_cons_zero, List.set_cons_succ]
                    refine wpAny_take (i := 6) (v := ?_) rfl (by kernel_rfl) (by kernel_rfl) (by kernel_rfl) (fun _ _ _ h => h) (Or.inl ⟨by kernel_rfl, ?_⟩) ?_
                    rotate_left
                    · intro w; go_simp
                      try with_reducible rfl
                    try simp only [Act.put, List.setIfInBounds_toArray, List.set_cons_zero, List.set_cons_succ]
                    refine wpAny_ready (rs := [7]) (by kernel_rfl) (by simp) ?_
                    refine AllReady.cons rfl (fun K hK => ?_) (AllReady.nil)
                    · go_simp
                      refine hK _ _ ?_
                      clear hK K
                      try simp only [Act.put, List.setIfInBounds_toArray, List.set_cons_zero, List.set_cons_succ]
                      refine wpAny_done (by kernel_rfl) ?_ _
                      go_wp2_with fail
                      go_roundw
                      case rel => exact ⟨j + 1, l ++ [r], _, a2, e2, by go_num, by omega, HST, (I2.alloc _).app hgrow3 (by rw [List.flatMap_append, List.length_append]; simpa using hown3)⟩
                      case measure => simp [intOf]; omega
            · go_simp
              go_wp2_with (go_at_call 66; refine (CR3.out _ hI.drew.rd).use ?_; intro w2 r2 g2; have I2 := hI.drew.call r2 g2; obtain ⟨kk2, bb0, bb1, bb2, bb3⟩ := I2.bt.c4; have ff := fun i => Blk.frozen I2.bt i)
              try simp only [Act.put, List.setIfInBounds_toArray, List.set_cons_zero, List.set_cons_succ]
              refine wpAny_ready (rs := [1, 4]) (by kernel_rfl) (by simp) ?_
              refine AllReady.cons rfl (fun K hK => ?_) (AllReady.cons rfl (fun K hK => ?_) (AllReady.nil))
              · go_simp
                refine hK _ _ ?_
                clear hK K
                try simp only [Act.put, List.setIfInBounds_toArray, List.set_cons_zero, List.set_cons_succ]
                refine wpAny_ready (rs := [4]) (by kernel_rfl) (by simp) ?_
                refine AllReady.cons rfl (fun K hK => ?_) (AllReady.nil)
                · go_simp
                  refine hK _ _ ?_
                  clear hK K
                  try simp only [Act.put, List.setIfInBounds_toArray, List.set_cons_zero, List.set_cons_succ]
                  refine wpAny_ready (rs := [5]) (by kernel_rfl) (by simp) ?_
                  refine AllReady.cons rfl (fun K hK => ?_) (AllReady.nil)
                  · refine step_append_lies _ (by rfl) _ _ _ (by rfl) w.heap.size 35 i0 _ 4 48 Tryz.underlying24 hi hz0 hz1 hz2 rfl (by omega) v l.length (l.flatMap Rec.cells) (by simp [Act.eval, Act.put]) (I2.own.alloc _) ⟨w2.heap.size, 0, none⟩ 1 1 r.cells (by simp [Act.eval, Act.put]) rfl (World.news_of_block (cs := r.cells.toArray) (t := 35) (fr := (0, 0)) (heap_alloc_new w2 _)) (by simp [Value.oneCell', Rec.cells]) (by omega) (by unfold maxLen; omega) (by omega) (by have := I2.below.size; simp; omega) (w2.heap.size + 1) (by simp) ?_; intro gg cap w3 hown3 hgrow3 hat3 hlt3; have bb4 := (I2.alloc _).row hgrow3; obtain ⟨kk4, dd0, dd1, dd2, dd3⟩ := bb4.c4; have ff4 := fun i => Blk.frozen bb4 i
                    refine hK _ _ ?_
                    clear hK K
                    try simp only [Act.put, List.setIfInBounds_toArray, List.set_cons_zero, List.set_cons_succ]
                    refine wpAny_take (i := 6) (v := ?_) rfl (by kernel_rfl) (by kernel_rfl) (by kernel_rfl) (fun _ _ _ h => h) (Or.inl ⟨by kernel_rfl, ?_⟩) ?_
                    rotate_left
                    · intro w; go_simp
                      try with_reducible rfl
                    try simp only [Act.put, List.setIfInBounds_toArray, List.set_cons_zero, List.set_cons_succ]
                    refine wpAny_ready (rs := [7]) (by kernel_rfl) (by simp) ?_
                    refine AllReady.cons rfl (fun K hK => ?_) (AllReady.nil)
                    · go_simp
                      refine hK _ _ ?_
                      clear hK K
                      try simp only [Act.put, List.setIfInBounds_toArray, List.set_cons_zero, List.set_cons_succ]
                      refine wpAny_done (by kernel_rfl) ?_ _
                      go_wp2_with fail
                      go_roundw
                      case rel => exact ⟨j + 1, l ++ [r], _, a2, e2, by go_num, by omega, HST, (I2.alloc _).app hgrow3 (by rw [List.flatMap_append, List.length_append]; simpa using hown3)⟩
                      case measure => simp [intOf]; omega
              · go_simp
                refine hK _ _ ?_
                clear hK K
                try simp only [Act.put, List.setIfInBounds_toArray, List.set_cons_zero, List.set_cons_succ]
                refine wpAny_ready (rs := [1]) (by kernel_rfl) (by simp) ?_
                refine AllReady.cons rfl (fun K hK => ?_) (AllReady.nil)
                · go_simp
                  refine hK _ _ ?_
                  clear hK K
                  try simp only [Act.put, List.setIfInBounds_toArray, List.set_cons_zero, List.set_cons_succ]
                  refine wpAny_ready (rs := [5]) (by kernel_rfl) (by simp) ?_
                  refine AllReady.cons rfl (fun K hK => ?_) (AllReady.nil)
                  · refine step_append_lies _ (by rfl) _ _ _ (by rfl) w.heap.size 35 i0 _ 4 48 Tryz.underlying24 hi hz0 hz1 hz2 rfl (by omega) v l.length (l.flatMap Rec.cells) (by simp [Act.eval, Act.put]) (I2.own.alloc _) ⟨w2.heap.size, 0, none⟩ 1 1 r.cells (by simp [Act.eval, Act.put]) rfl (World.news_of_block (cs := r.cells.toArray) (t := 35) (fr := (0, 0)) (heap_alloc_new w2 _)) (by simp [Value.oneCell', Rec.cells]) (by omega) (by unfold maxLen; omega) (by omega) (by have := I2.below.size; simp; omega) (w2.heap.size + 1) (by simp) ?_; intro gg cap w3 hown3 hgrow3 hat3 hlt3; have bb4 := (I2.alloc _).row hgrow3; obtain ⟨kk4, dd0, dd1, dd2, dd3⟩ := bb4.c4; have ff4 := fun i => Blk.frozen bb4 i
                    refine hK _ _ ?_
                    clear hK K
                    try simp only [Act.put, List.setIfInBounds_toArray, List.set_cons_zero, List.set_cons_succ]
                    refine wpAny_take (i := 6) (v := ?_) rfl (by kernel_rfl) (by kernel_rfl) (by kernel_rfl) (fun _ _ _ h => h) (Or.inl ⟨by kernel_rfl, ?_⟩) ?_
                    rotate_left
                    · intro w; go_simp
                      try with_reducible rfl
                    try simp only [Act.put, List.setIfInBounds_toArray, List.set_cons_zero, List.set_cons_succ]
                    refine wpAny_ready (rs := [7]) (by kernel_rfl) (by simp) ?_
                    refine AllReady.cons rfl (fun K hK => ?_) (AllReady.nil)
                    · go_simp
                      refine hK _ _ ?_
                      clear hK K
                      try simp only [Act.put, List.setIfInBounds_toArray, List.set_cons_zero, List.set_cons_succ]
                      refine wpAny_done (by kernel_rfl) ?_ _
                      go_wp2_with fail
                      go_roundw
                      case rel => exact ⟨j + 1, l ++ [r], _, a2, e2, by go_num, by omega, HST, (I2.alloc _).app hgrow3 (by rw [List.flatMap_append, List.length_append]; simpa using hown3)⟩
                      case measure => simp [intOf]; omega
          · obtain rfl : j = x3 := by omega
            have hps := PRel.stop hrl.out
            rw [hps] at hR
            simp only [ne_eq, not_true_eq_false, if_false] at hR
            have hrin := recs_own hI.own
            obtain ⟨ao, cp, rfl⟩ := hrin.form
            have A4 := (((hI.rs.set 0 (.int .i64 x0)).set 1 (.int .i64 x1)).set 2 (.int .i64 x2)).set 3 (.slice ao l.length cp)
            have n1 : w.heap.size ≠ w1.heap.size + 1 := by omega
            have n2 : w.heap.size + 1 ≠ w1.heap.size + 1 := by omega
            have n3 : w.heap.size ≠ w.heap.size + 1 := by omega
            clear hps
            go_wp2_with fail
            go_region_held3 (fun w' => w'.cell? ⟨w1.heap.size + 1, 0, none⟩ = some (.int .i64 x0) ∧ w'.cell? ⟨w1.heap.size + 1, 1, none⟩ = some (.int .i64 x1) ∧ w'.cell? ⟨w1.heap.size + 1, 2, none⟩ = some (.int .i64 x2) ∧ w'.cell? ⟨w1.heap.size + 1, 3, none⟩ = some (.slice ao l.length cp) ∧ w'.cell? ⟨w.heap.size + 1, 1, none⟩ = some (.int .i64 a)) (go_keep) (fail)
            go_wp2
            refine bodyPost_ret (results_cell3 rfl _ _ w.heap.size 26 #[.int .i64 x0, .int .i64 x1, .int .i64 x2, .slice ao l.length cp] (0, 0) _ _ _ rfl rfl rfl A4.drew Tryz.underlying26 rfl (by kernel_rfl)) rfl ?_
            refine hR.out _ _ ?_ ((((hI.below.setCell (p := ⟨w.heap.size, 0, none⟩) (Nat.le_refl _) _).setCell (p := ⟨w.heap.size, 1, none⟩) (Nat.le_refl _) _).setCell (p := ⟨w.heap.size, 2, none⟩) (Nat.le_refl _) _).setCell (p := ⟨w.heap.size, 3, none⟩) (Nat.le_refl _) _).drew
            exact ((hI.own.kept (row := some w.heap.size) (grown_drew (grown_set (grown_set (grown_set (grown_set (grown_refl _ _) _ _) _ _) _ _) _ _)) (.inr (Ne.symm (own_ne hI.own hI.rs (by decide))))))
        · have hpf := PRel.fail hrl.out he
          rw [hpf, if_pos he] at hR
          have q1 : ((e : Int) == 0) = false := by simpa using he
          have q2 : ((e : Int) != 0) = true := by simpa using he
          have A4 := (((hI.rs.set 0 (.int .i64 0)).set 1 (.int .i64 0)).set 2 (.int .i64 0)).set 3 (.slice none 0 0)
          have n3 : w.heap.size ≠ w.heap.size + 1 := by omega
          clear hpf he
          go_wp2_with fail
          go_region_held3 (fun w' => w'.cell? ⟨w.heap.size + 1, 2, none⟩ = some (.int .i64 e)) (go_keep) (fail)
          go_wp2
          refine bodyPost_ret (results_cell3 rfl _ _ w.heap.size 26 #[.int .i64 0, .int .i64 0, .int .i64 0, .slice none 0 0] (0, 0) _ _ _ rfl rfl rfl A4.drew Tryz.underlying26 rfl (by kernel_rfl)) rfl ?_
          exact hR.out _ _ (World.ownsRow_nil _ _ _ _) ((((hI.below.setCell (p := ⟨w.heap.size, 0, none⟩) (Nat.le_refl _) _).setCell (p := ⟨w.heap.size, 1, none⟩) (Nat.le_refl _) _).setCell (p := ⟨w.heap.size, 2, none⟩) (Nat.le_refl _) _).setCell (p := ⟨w.heap.size, 3, none⟩) (Nat.le_refl _) _).drew
    · rw [if_pos he] at hR
      have q1 : ((en : Int) == 0) = false := by simpa using he
      have q2 : ((en : Int) != 0) = true := by simpa using he
      obtain ⟨t0, t1, t2, t3, t4⟩ := A1.c4
      clear he
      have n3 : w.heap.size ≠ w.heap.size + 1 := by omega
      go_wp2_with fail
      refine wp_loop_rounds 1 ?_
      rw [rounds_succ]
      go_wp2
      have I1 := Blk.alloc (Blk.alloc r1 (.cells #[.int .i64 x0, .int .i64 x1, .int .i64 x2, .int .i64 x3] 156)) (.cells #[.int .i64 x0, .int .i64 x1, .int .i64 x2, .slice none 0 0] 26)
      have I2 := (A1.alloc (.cells #[.int .i64 x0, .int .i64 x1, .int .i64 x2, .int .i64 x3] 156)).alloc (.cells #[.int .i64 x0, .int .i64 x1, .int .i64 x2, .slice none 0 0] 26)
      have G2 := below_all (o := .cells #[.int .i64 x0, .int .i64 x1, .int .i64 x2, .slice none 0 0] 26) (below_all (o := .cells #[.int .i64 x0, .int .i64 x1, .int .i64 x2, .int .i64 x3] 156) G1)
      generalize (w1.alloc (.cells #[.int .i64 x0, .int .i64 x1, .int .i64 x2, .int .i64 x3] 156)).alloc (.cells #[.int .i64 x0, .int .i64 x1, .int .i64 x2, .slice none 0 0] 26) = W1 at I1 I2 G2 ⊢
      clear t0 t1 t2 t3 t4
      obtain ⟨t0, t1, t2, t3, t4⟩ := I2.c4
      have f1 := fun i => Blk.frozen I2 i
      obtain ⟨y0, y1, y2, y3⟩ := Blk.c3 I1
      have A4 := (((I2.set 0 (.int .i64 0)).set 1 (.int .i64 0)).set 2 (.int .i64 0)).set 3 (.slice none 0 0)
      go_region_held3 (fun w' => w'.cell? ⟨w.heap.size + 1, 2, none⟩ = some (.int .i64 en)) (go_keep) (fail)
      go_wp2
      refine bodyPost_ret (results_cell3 rfl _ _ w.heap.size 26 #[.int .i64 0, .int .i64 0, .int .i64 0, .slice none 0 0] (0, 0) _ _ _ rfl rfl rfl A4.drew Tryz.underlying26 rfl (by kernel_rfl)) rfl ?_
      exact hR.out _ _ (World.ownsRow_nil _ _ _ _) ((((G2.setCell (p := ⟨w.heap.size, 0, none⟩) (Nat.le_refl _) _).setCell (p := ⟨w.heap.size, 1, none⟩) (Nat.le_refl _) _).setCell (p := ⟨w.heap.size, 2, none⟩) (Nat.le_refl _) _).setCell (p := ⟨w.heap.size, 3, none⟩) (Nat.le_refl _) _).drew
end Go.Proofs.YthiliodmbipikaaGreat
