/-
  Layer 3's statements: a batch of at most 20 records, of at most 80 and 600 bytes: contract.
-/
import Derived.Test.YthiliodmbipikaaRecY
import Derived.Test.YthiliodmbipikaaRecX
set_option linter.unusedVariables false
set_option linter.unusedSimpArgs false
namespace Go.Proofs.Ythiliodmbipikaa
open Go.RowKit
attribute [local go_sem] ByteArray.extract_mk ByteArray.mk_append_mk

def cutR (r : Rec) : Rec := ⟨r.hk, r.key.take 80, r.tb, r.val.take 600⟩
def cutRs (l : List Rec) : List Rec := (l.take 20).map cutR

/-- The blocks of Bound: the argument's box, the result, the batch that is made. -/
structure BInv (w0 : World) (p q r : Int) (av v : Value) (l : List Rec) (W : World) : Prop where
  bx : Blk W w0.heap.size #[.int .i64 p, .int .i64 q, .int .i64 r, av] 26
  rs : Blk W (w0.heap.size + 1) #[.int .i64 0, .int .i64 0, .int .i64 0, .slice none 0 0] 26
  bt : Blk W (w0.heap.size + 2) #[.int .i64 p, .int .i64 q, .int .i64 r, v] 26
  own : W.ownsRow w0.heap.size 68 4 v l.length (l.flatMap Rec.cells)
  below : Below w0.heap.size w0 W
section
variable {w0 W W' : World} {p q r : Int} {av v v' : Value} {l l' : List Rec}
theorem BInv.drew (h : BInv w0 p q r av v l W) : BInv w0 p q r av v l W.drew := ⟨h.bx, h.rs, h.bt, h.own, h.below.drew⟩
theorem BInv.alloc (h : BInv w0 p q r av v l W) (o : Obj) : BInv w0 p q r av v l (W.alloc o) := ⟨h.bx.alloc o, h.rs.alloc o, h.bt.alloc o, h.own.alloc o, h.below.alloc h.below.size o⟩
theorem BInv.bel (h : BInv w0 p q r av v l W) (hb : Below W.heap.size W W') : BInv w0 p q r av v l W' :=
  ⟨h.bx.below hb, h.rs.below hb, h.bt.below hb, h.own.kept (row := none) ⟨hb.os, hb.tape, hb.output, hb.size, fun i hi _ => hb.block i hi⟩ (by cases hv : v.ownBlock <;> simp), h.below.trans (hb.mono h.below.size)⟩
theorem BInv.row (h : BInv w0 p q r av v l W) (hg : W.grownBy W' v.ownBlock) : Blk W' (w0.heap.size + 2) #[.int .i64 p, .int .i64 q, .int .i64 r, v] 26 := h.bt.grown hg (own_ne h.own h.bt (by decide))
theorem BInv.app (h : BInv w0 p q r av v l W) (hg : W.grownBy W' v.ownBlock) (ho : W'.ownsRow w0.heap.size 68 4 v' l'.length (l'.flatMap Rec.cells)) :
    BInv w0 p q r av v' l' (W'.setCell ⟨w0.heap.size + 2, 3, none⟩ v') := by
  have n1 := own_ne h.own h.bx (by decide)
  have n2 := own_ne h.own h.rs (by decide)
  have n3 := own_ne h.own h.bt (by decide)
  have B1 : Below w0.heap.size w0 W' := ⟨hg.os.trans h.below.os, hg.tape.trans h.below.tape, hg.output.trans h.below.output, Nat.le_trans h.below.size hg.size, fun k hk => (hg.block k (Nat.lt_of_lt_of_le hk h.below.size) (fun e1 => by have := (h.own.lt k e1.symm).1; omega)).trans (h.below.block k hk)⟩
  have hbt := h.bt.grown hg n3
  refine ⟨(h.bx.grown hg n1).setOther (by simp) _, (h.rs.grown hg n2).setOther (by simp) _, hbt.set 3 v', ?_, B1.setCell (p := ⟨w0.heap.size + 2, 3, none⟩) (by simp) _⟩
  exact ho.kept (row := some (w0.heap.size + 2)) (grown_set (grown_refl _ _) 3 v') (.inr (Ne.symm (own_ne ho hbt (by decide))))
end

/-- A batch handed back: its records lie in memory. -/
def BatchCall (f : FuncId) (args : Array Value) (w : World) (p q r : Int) (l : List Rec) : Prop :=
  Calls Try.prog f args w fun x w' => ∃ v, x = .returned (.agg #[.int .i64 p, .int .i64 q, .int .i64 r, v]) ∧ w'.ownsRow w.heap.size 68 4 v l.length (l.flatMap Rec.cells) ∧ Below w.heap.size w w'
theorem BatchCall.intro {f : FuncId} {args : Array Value} {w : World} {p q r : Int} {l : List Rec}
    (h : ∀ R : Ending → World → Prop, Hid (∀ v w', w'.ownsRow w.heap.size 68 4 v l.length (l.flatMap Rec.cells) → Below w.heap.size w w' → R (.returned (.agg #[.int .i64 p, .int .i64 q, .int .i64 r, v])) w') → Calls Try.prog f args w R) : BatchCall f args w p q r l :=
  h _ fun v w' h1 h2 => ⟨v, rfl, h1, h2⟩
theorem BatchCall.use {f : FuncId} {args : Array Value} {w : World} {p q r : Int} {l : List Rec} {R : Ending → World → Prop} (h : BatchCall f args w p q r l)
    (k : ∀ v w', w'.ownsRow w.heap.size 68 4 v l.length (l.flatMap Rec.cells) → Below w.heap.size w w' → R (.returned (.agg #[.int .i64 p, .int .i64 q, .int .i64 r, v])) w') : Calls Try.prog f args w R :=
  h.mono fun x w' ⟨v, he, h1, h2⟩ => by subst he; exact k v w' h1 h2

set_option maxHeartbeats 4000000 in
set_option maxRecDepth 100000 in
theorem bound_any (p q r : Int) (v : Value) (l : List Rec) (w : World) (hl : RecsIn w v l) (hbd : RecsBd l) :
    BatchCall 28 #[.agg #[.int .i64 p, .int .i64 q, .int .i64 r, v]] w p q r (cutRs l) := by
  refine BatchCall.intro fun R hR => ?_
  obtain ⟨i0, hi, hz0, hz1, hz2⟩ := info_parts recInfo
  obtain ⟨a, cap, hv⟩ := hl.form
  have hbl : l.length ≤ 9223372036854775807 := by have := hbd.1; unfold maxLen at this; omega
  have HB := Lib.hid hbd
  clear hbd
  subst hv
  have HL := Lib.hid hl
  clear hl
  go_enter Try.func28, Try.ntmps28
  go_wp2_with fail
  have I0 : BInv w p q r (.slice a l.length cap) (.slice none 0 0) [] (((w.alloc (.cells #[.int .i64 p, .int .i64 q, .int .i64 r, .slice a l.length cap] 26)).alloc (.cells #[.int .i64 0, .int .i64 0, .int .i64 0, .slice none 0 0] 26)).alloc (.cells #[.int .i64 p, .int .i64 q, .int .i64 r, .slice none 0 0] 26)) := by
    refine ⟨((Blk.new w _ _).alloc _).alloc _, ?_, ?_, World.ownsRow_nil _ _ _ _, below_all (below_all (below_all (Below.refl _ _)))⟩
    · have h := Blk.new (w.alloc (.cells #[.int .i64 p, .int .i64 q, .int .i64 r, .slice a l.length cap] 26)) #[.int .i64 0, .int .i64 0, .int .i64 0, .slice none 0 0] 26
      rw [World.size_alloc] at h
      exact h.alloc _
    · have h := Blk.new ((w.alloc (.cells #[.int .i64 p, .int .i64 q, .int .i64 r, .slice a l.length cap] 26)).alloc (.cells #[.int .i64 0, .int .i64 0, .int .i64 0, .slice none 0 0] 26)) #[.int .i64 p, .int .i64 q, .int .i64 r, .slice none 0 0] 26
      rw [World.size_alloc, World.size_alloc] at h
      exact h
  go_loopw [4] (fun (v4 : Value) (W : World) => ∃ (j : Nat) (v : Value), v4 = .int .i64 (j : Int) ∧ j ≤ l.length ∧ j ≤ 20 ∧ BInv w p q r (.slice a l.length cap) v ((l.take j).map cutR) W) (fun (v4 : Value) (W : World) => (20 - intOf v4).toNat)
  case atStart => exact ⟨0, _, rfl, by omega, by omega, I0⟩
  case round =>
    obtain ⟨j, v, rfl, hj, hj2, hI⟩ := hrel
    obtain ⟨k1, x0, x1, x2, x3⟩ := hI.bx.c4
    obtain ⟨k2, b0, b1, b2, b3⟩ := hI.bt.c4
    obtain ⟨k3, s0, s1, s2, s3⟩ := hI.rs.c4
    have fb := fun i => Blk.frozen hI.bt i
    have fs := fun i => Blk.frozen hI.rs i
    by_cases hjl : j < l.length
    · by_cases hj20 : j < 20
      · have hrin := HL.out.below (W := wr) hI.below
        have HRI := Lib.hid hrin
        clear hrin
        obtain ⟨b, off, cap', hsl, hlt, hce⟩ : ∃ b off cap', Value.slice a l.length cap = .slice (some ⟨b, off, none⟩) l.length cap' ∧ b < wr.heap.size ∧ RecAt wr b (off + j * 4) l[j] := by
          rcases HRI.out with ⟨rfl, _⟩ | ⟨b, off, cap', h1, _, h2, h3⟩
          · simp at hjl
          · exact ⟨b, off, cap', h1, h2, h3 j hjl⟩
        simp only [Value.slice.injEq, true_and] at hsl
        obtain ⟨rfl, rfl⟩ := hsl
        obtain ⟨c0, c1, c2, c3⟩ := hce
        have hbr := HB.out.2 _ (List.getElem_mem hjl)
        have cC := fun W => cut3_any l[j].hk l[j].tb l[j].key l[j].val W hbr.1 hbr.2
        have hsn : (l.take (j + 1)).map cutR = (l.take j).map cutR ++ [cutR l[j]] := by rw [List.take_succ_eq_append_getElem hjl, List.map_append]; rfl
        have HS := Lib.hid hsn
        have hln : ((l.take j).map cutR).length ≤ 20 := by simp; omega
        generalize l[j] = r1 at *
        obtain ⟨ys, hys⟩ : ∃ ys, (l.take j).map cutR = ys := ⟨_, rfl⟩
        rw [hys] at hln HS hI
        have CC := Lib.hid cC
        clear cC hsn hys hbr
        have i1 : (0 : Int) ≤ (j : Int) := by omega
        have i2 : (j : Int) < (l.length : Int) := by omega
        go_wp2_with fail
        refine wp_region_any (by kernel_rfl) ?_
        try (change wpAny _ _ _ _ _ _ _ (World.drew _))
        refine wpAny_take (i := 0) (v := ?_) rfl (by kernel_rfl) (by kernel_rfl) (by kernel_rfl) (fun _ _ _ h => h) (Or.inl ⟨by kernel_rfl, ?_⟩) ?_
        rotate_left
        · intro w; go_simp
          try with_reducible rfl
        try simp only [Act.put, List.setIfInBounds_toArray, List.set_cons_zero, List.set_cons_succ]
        refine wpAny_take (i := 2) (v := ?_) rfl (by kernel_rfl) (by kernel_rfl) (by kernel_rfl) (fun _ _ _ h => h) (Or.inl ⟨by kernel_rfl, ?_⟩) ?_
        rotate_left
        · intro w; go_simp
          try with_reducible rfl
        try simp only [Act.put, List.setIfInBounds_toArray, List.set_cons_zero, List.set_cons_succ]
        refine wpAny_take (i := 4) (v := ?_) rfl (by kernel_rfl) (by kernel_rfl) (by kernel_rfl) (fun _ _ _ h => h) (Or.inl ⟨by kernel_rfl, ?_⟩) ?_
        rotate_left
        · intro w; go_simp
          try with_reducible rfl
        try simp only [Act.put, List.setIfInBounds_toArray, List.set_cons_zero, List.set_cons_succ]
        refine wpAny_ready (rs := [1, 3]) (by kernel_rfl) (by simp) ?_
        refine AllReady.cons rfl (fun K hK => ?_) (AllReady.cons rfl (fun K hK => ?_) (AllReady.nil))
        · go_simp
          refine hK _ _ ?_
          clear hK K
          try simp only [Act.put, List.setIfInBounds_toArray, List.set_cons_zero, List.set_cons_succ]
          refine wpAny_ready (rs := [3]) (by kernel_rfl) (by simp) ?_
          refine AllReady.cons rfl (fun K hK => ?_) (AllReady.nil)
          · go_simp
            refine hK _ _ ?_
            clear hK K
            try simp only [Act.put, List.setIfInBounds_toArray, List.set_cons_zero, List.set_cons_succ]
            refine wpAny_take (i := 5) (v := ?_) rfl (by kernel_rfl) (by kernel_rfl) (by kernel_rfl) (fun _ _ _ h => h) (Or.inl ⟨by kernel_rfl, ?_⟩) ?_
            rotate_left
            · intro w; go_simp
              try with_reducible rfl
            try simp only [Act.put, List.setIfInBounds_toArray, List.set_cons_zero, List.set_cons_succ]
            refine wpAny_ready (rs := [6]) (by kernel_rfl) (by simp) ?_
            refine AllReady.cons rfl (fun K hK => ?_) (AllReady.nil)
            · go_simp
              refine hK _ _ ?_
              clear hK K
              try simp only [Act.put, List.setIfInBounds_toArray, List.set_cons_zero, List.set_cons_succ]
              refine wpAny_ready (rs := [7]) (by kernel_rfl) (by simp) ?_
              refine AllReady.cons rfl (fun K hK => ?_) (AllReady.nil)
              · go_simp
                go_wp2_with (go_at_call 63; refine (CC.out _).use ?_; intro w2 hb2; have I2 := hI.drew.bel hb2; obtain ⟨kk2, bb0, bb1, bb2, bb3⟩ := I2.bt.c4)
                try simp only [Act.put, List.setIfInBounds_toArray, List.set_cons_zero, List.set_cons_succ]
                refine wpAny_ready (rs := [8]) (by kernel_rfl) (by simp) ?_
                refine AllReady.cons rfl (fun K hK => ?_) (AllReady.nil)
                · go_simp
                  refine hK _ _ ?_
                  clear hK K
                  try simp only [Act.put, List.setIfInBounds_toArray, List.set_cons_zero, List.set_cons_succ]
                  refine wpAny_ready (rs := [9]) (by kernel_rfl) (by simp) ?_
                  refine AllReady.cons rfl (fun K hK => ?_) (AllReady.nil)
                  · refine step_append_lies _ (by rfl) _ _ _ (by rfl) w.heap.size 68 i0 _ 4 48 Try.underlying24 hi hz0 hz1 hz2 rfl (by omega) v ys.length (ys.flatMap Rec.cells) (by simp [Act.eval, Act.put]) (I2.own.alloc _) ⟨w2.heap.size, 0, none⟩ 1 1 (cutR r1).cells (by simp [Act.eval, Act.put]) rfl (World.news_of_block (cs := (cutR r1).cells.toArray) (t := 68) (fr := (0, 0)) (heap_alloc_new w2 _)) (by simp [Value.oneCell', Rec.cells]) (by omega) (by unfold maxLen; omega) (by omega) (by have := I2.below.size; simp; omega) (w2.heap.size + 1) (by simp) ?_; intro gg cp w3 hown3 hgrow3 hat3 hlt3; have bb4 := (I2.alloc _).row hgrow3; obtain ⟨kk4, dd0, dd1, dd2, dd3⟩ := bb4.c4; have ff4 := fun i => Blk.frozen bb4 i
                    refine hK _ _ ?_
                    clear hK K
                    try simp only [Act.put, List.setIfInBounds_toArray, List.set_cons_zero, List.set_cons_succ]
                    refine wpAny_take (i := 10) (v := ?_) rfl (by kernel_rfl) (by kernel_rfl) (by kernel_rfl) (fun _ _ _ h => h) (Or.inl ⟨by kernel_rfl, ?_⟩) ?_
                    rotate_left
                    · intro w; go_simp
                      try with_reducible rfl
                    try simp only [Act.put, List.setIfInBounds_toArray, List.set_cons_zero, List.set_cons_succ]
                    refine wpAny_ready (rs := [11]) (by kernel_rfl) (by simp) ?_
                    refine AllReady.cons rfl (fun K hK => ?_) (AllReady.nil)
                    · go_simp
                      refine hK _ _ ?_
                      clear hK K
                      try simp only [Act.put, List.setIfInBounds_toArray, List.set_cons_zero, List.set_cons_succ]
                      refine wpAny_done (by kernel_rfl) ?_ _
                      go_wp2_with fail
                      go_roundw
                      case rel => exact ⟨j + 1, _, by go_num, by omega, by omega, by rw [HS.out]; exact (I2.alloc _).app hgrow3 (by rw [List.flatMap_append, List.length_append]; simpa using hown3)⟩
                      case measure => simp [intOf]; omega
        · go_simp
          refine hK _ _ ?_
          clear hK K
          try simp only [Act.put, List.setIfInBounds_toArray, List.set_cons_zero, List.set_cons_succ]
          refine wpAny_take (i := 5) (v := ?_) rfl (by kernel_rfl) (by kernel_rfl) (by kernel_rfl) (fun _ _ _ h => h) (Or.inl ⟨by kernel_rfl, ?_⟩) ?_
          rotate_left
          · intro w; go_simp
            try with_reducible rfl
          try simp only [Act.put, List.setIfInBounds_toArray, List.set_cons_zero, List.set_cons_succ]
          refine wpAny_ready (rs := [1, 6]) (by kernel_rfl) (by simp) ?_
          refine AllReady.cons rfl (fun K hK => ?_) (AllReady.cons rfl (fun K hK => ?_) (AllReady.nil))
          · go_simp
            refine hK _ _ ?_
            clear hK K
            try simp only [Act.put, List.setIfInBounds_toArray, List.set_cons_zero, List.set_cons_succ]
            refine wpAny_ready (rs := [6]) (by kernel_rfl) (by simp) ?_
            refine AllReady.cons rfl (fun K hK => ?_) (AllReady.nil)
            · go_simp
              refine hK _ _ ?_
              clear hK K
              try simp only [Act.put, List.setIfInBounds_toArray, List.set_cons_zero, List.set_cons_succ]
              refine wpAny_ready (rs := [7]) (by kernel_rfl) (by simp) ?_
              refine AllReady.cons rfl (fun K hK => ?_) (AllReady.nil)
              · go_simp
                go_wp2_with (go_at_call 63; refine (CC.out _).use ?_; intro w2 hb2; have I2 := hI.drew.bel hb2; obtain ⟨kk2, bb0, bb1, bb2, bb3⟩ := I2.bt.c4)
                try simp only [Act.put, List.setIfInBounds_toArray, List.set_cons_zero, List.set_cons_succ]
                refine wpAny_ready (rs := [8]) (by kernel_rfl) (by simp) ?_
                refine AllReady.cons rfl (fun K hK => ?_) (AllReady.nil)
                · go_simp
                  refine hK _ _ ?_
                  clear hK K
                  try simp only [Act.put, List.setIfInBounds_toArray, List.set_cons_zero, List.set_cons_succ]
                  refine wpAny_ready (rs := [9]) (by kernel_rfl) (by simp) ?_
                  refine AllReady.cons rfl (fun K hK => ?_) (AllReady.nil)
                  · refine step_append_lies _ (by rfl) _ _ _ (by rfl) w.heap.size 68 i0 _ 4 48 Try.underlying24 hi hz0 hz1 hz2 rfl (by omega) v ys.length (ys.flatMap Rec.cells) (by simp [Act.eval, Act.put]) (I2.own.alloc _) ⟨w2.heap.size, 0, none⟩ 1 1 (cutR r1).cells (by simp [Act.eval, Act.put]) rfl (World.news_of_block (cs := (cutR r1).cells.toArray) (t := 68) (fr := (0, 0)) (heap_alloc_new w2 _)) (by simp [Value.oneCell', Rec.cells]) (by omega) (by unfold maxLen; omega) (by omega) (by have := I2.below.size; simp; omega) (w2.heap.size + 1) (by simp) ?_; intro gg cp w3 hown3 hgrow3 hat3 hlt3; have bb4 := (I2.alloc _).row hgrow3; obtain ⟨kk4, dd0, dd1, dd2, dd3⟩ := bb4.c4; have ff4 := fun i => Blk.frozen bb4 i
                    refine hK _ _ ?_
                    clear hK K
                    try simp only [Act.put, List.setIfInBounds_toArray, List.set_cons_zero, List.set_cons_succ]
                    refine wpAny_take (i := 10) (v := ?_) rfl (by kernel_rfl) (by kernel_rfl) (by kernel_rfl) (fun _ _ _ h => h) (Or.inl ⟨by kernel_rfl, ?_⟩) ?_
                    rotate_left
                    · intro w; go_simp
                      try with_reducible rfl
                    try simp only [Act.put, List.setIfInBounds_toArray, List.set_cons_zero, List.set_cons_succ]
                    refine wpAny_ready (rs := [11]) (by kernel_rfl) (by simp) ?_
                    refine AllReady.cons rfl (fun K hK => ?_) (AllReady.nil)
                    · go_simp
                      refine hK _ _ ?_
                      clear hK K
                      try simp only [Act.put, List.setIfInBounds_toArray, List.set_cons_zero, List.set_cons_succ]
                      refine wpAny_done (by kernel_rfl) ?_ _
                      go_wp2_with fail
                      go_roundw
                      case rel => exact ⟨j + 1, _, by go_num, by omega, by omega, by rw [HS.out]; exact (I2.alloc _).app hgrow3 (by rw [List.flatMap_append, List.length_append]; simpa using hown3)⟩
                      case measure => simp [intOf]; omega
          · go_simp
            refine hK _ _ ?_
            clear hK K
            try simp only [Act.put, List.setIfInBounds_toArray, List.set_cons_zero, List.set_cons_succ]
            refine wpAny_ready (rs := [1, 7]) (by kernel_rfl) (by simp) ?_
            refine AllReady.cons rfl (fun K hK => ?_) (AllReady.cons rfl (fun K hK => ?_) (AllReady.nil))
            · go_simp
              refine hK _ _ ?_
              clear hK K
              try simp only [Act.put, List.setIfInBounds_toArray, List.set_cons_zero, List.set_cons_succ]
              refine wpAny_ready (rs := [7]) (by kernel_rfl) (by simp) ?_
              refine AllReady.cons rfl (fun K hK => ?_) (AllReady.nil)
              · go_simp
                go_wp2_with (go_at_call 63; refine (CC.out _).use ?_; intro w2 hb2; have I2 := hI.drew.bel hb2; obtain ⟨kk2, bb0, bb1, bb2, bb3⟩ := I2.bt.c4)
                try simp only [Act.put, List.setIfInBounds_toArray, List.set_cons_zero, List.set_cons_succ]
                refine wpAny_ready (rs := [8]) (by kernel_rfl) (by simp) ?_
                refine AllReady.cons rfl (fun K hK => ?_) (AllReady.nil)
                · go_simp
                  refine hK _ _ ?_
                  clear hK K
                  try simp only [Act.put, List.setIfInBounds_toArray, List.set_cons_zero, List.set_cons_succ]
                  refine wpAny_ready (rs := [9]) (by kernel_rfl) (by simp) ?_
                  refine AllReady.cons rfl (fun K hK => ?_) (AllReady.nil)
                  · refine step_append_lies _ (by rfl) _ _ _ (by rfl) w.heap.size 68 i0 _ 4 48 Try.underlying24 hi hz0 hz1 hz2 rfl (by omega) v ys.length (ys.flatMap Rec.cells) (by simp [Act.eval, Act.put]) (I2.own.alloc _) ⟨w2.heap.size, 0, none⟩ 1 1 (cutR r1).cells (by simp [Act.eval, Act.put]) rfl (World.news_of_block (cs := (cutR r1).cells.toArray) (t := 68) (fr := (0, 0)) (heap_alloc_new w2 _)) (by simp [Value.oneCell', Rec.cells]) (by omega) (by unfold maxLen; omega) (by omega) (by have := I2.below.size; simp; omega) (w2.heap.size + 1) (by simp) ?_; intro gg cp w3 hown3 hgrow3 hat3 hlt3; have bb4 := (I2.alloc _).row hgrow3; obtain ⟨kk4, dd0, dd1, dd2, dd3⟩ := bb4.c4; have ff4 := fun i => Blk.frozen bb4 i
                    refine hK _ _ ?_
                    clear hK K
                    try simp only [Act.put, List.setIfInBounds_toArray, List.set_cons_zero, List.set_cons_succ]
                    refine wpAny_take (i := 10) (v := ?_) rfl (by kernel_rfl) (by kernel_rfl) (by kernel_rfl) (fun _ _ _ h => h) (Or.inl ⟨by kernel_rfl, ?_⟩) ?_
                    rotate_left
                    · intro w; go_simp
                      try with_reducible rfl
                    try simp only [Act.put, List.setIfInBounds_toArray, List.set_cons_zero, List.set_cons_succ]
                    refine wpAny_ready (rs := [11]) (by kernel_rfl) (by simp) ?_
                    refine AllReady.cons rfl (fun K hK => ?_) (AllReady.nil)
                    · go_simp
                      refine hK _ _ ?_
                      clear hK K
                      try simp only [Act.put, List.setIfInBounds_toArray, List.set_cons_zero, List.set_cons_succ]
                      refine wpAny_done (by kernel_rfl) ?_ _
                      go_wp2_with fail
                      go_roundw
                      case rel => exact ⟨j + 1, _, by go_num, by omega, by omega, by rw [HS.out]; exact (I2.alloc _).app hgrow3 (by rw [List.flatMap_append, List.length_append]; simpa using hown3)⟩
                      case measure => simp [intOf]; omega
            · go_simp
              go_wp2_with (go_at_call 63; refine (CC.out _).use ?_; intro w2 hb2; have I2 := hI.drew.bel hb2; obtain ⟨kk2, bb0, bb1, bb2, bb3⟩ := I2.bt.c4)
              try simp only [Act.put, List.setIfInBounds_toArray, List.set_cons_zero, List.set_cons_succ]
              refine wpAny_ready (rs := [1, 8]) (by kernel_rfl) (by simp) ?_
              refine AllReady.cons rfl (fun K hK => ?_) (AllReady.cons rfl (fun K hK => ?_) (AllReady.nil))
              · go_simp
                refine hK _ _ ?_
                clear hK K
                try simp only [Act.put, List.setIfInBounds_toArray, List.set_cons_zero, List.set_cons_succ]
                refine wpAny_ready (rs := [8]) (by kernel_rfl) (by simp) ?_
                refine AllReady.cons rfl (fun K hK => ?_) (AllReady.nil)
                · go_simp
                  refine hK _ _ ?_
                  clear hK K
                  try simp only [Act.put, List.setIfInBounds_toArray, List.set_cons_zero, List.set_cons_succ]
                  refine wpAny_ready (rs := [9]) (by kernel_rfl) (by simp) ?_
                  refine AllReady.cons rfl (fun K hK => ?_) (AllReady.nil)
                  · refine step_append_lies _ (by rfl) _ _ _ (by rfl) w.heap.size 68 i0 _ 4 48 Try.underlying24 hi hz0 hz1 hz2 rfl (by omega) v ys.length (ys.flatMap Rec.cells) (by simp [Act.eval, Act.put]) (I2.own.alloc _) ⟨w2.heap.size, 0, none⟩ 1 1 (cutR r1).cells (by simp [Act.eval, Act.put]) rfl (World.news_of_block (cs := (cutR r1).cells.toArray) (t := 68) (fr := (0, 0)) (heap_alloc_new w2 _)) (by simp [Value.oneCell', Rec.cells]) (by omega) (by unfold maxLen; omega) (by omega) (by have := I2.below.size; simp; omega) (w2.heap.size + 1) (by simp) ?_; intro gg cp w3 hown3 hgrow3 hat3 hlt3; have bb4 := (I2.alloc _).row hgrow3; obtain ⟨kk4, dd0, dd1, dd2, dd3⟩ := bb4.c4; have ff4 := fun i => Blk.frozen bb4 i
                    refine hK _ _ ?_
                    clear hK K
                    try simp only [Act.put, List.setIfInBounds_toArray, List.set_cons_zero, List.set_cons_succ]
                    refine wpAny_take (i := 10) (v := ?_) rfl (by kernel_rfl) (by kernel_rfl) (by kernel_rfl) (fun _ _ _ h => h) (Or.inl ⟨by kernel_rfl, ?_⟩) ?_
                    rotate_left
                    · intro w; go_simp
                      try with_reducible rfl
                    try simp only [Act.put, List.setIfInBounds_toArray, List.set_cons_zero, List.set_cons_succ]
                    refine wpAny_ready (rs := [11]) (by kernel_rfl) (by simp) ?_
                    refine AllReady.cons rfl (fun K hK => ?_) (AllReady.nil)
                    · go_simp
                      refine hK _ _ ?_
                      clear hK K
                      try simp only [Act.put, List.setIfInBounds_toArray, List.set_cons_zero, List.set_cons_succ]
                      refine wpAny_done (by kernel_rfl) ?_ _
                      go_wp2_with fail
                      go_roundw
                      case rel => exact ⟨j + 1, _, by go_num, by omega, by omega, by rw [HS.out]; exact (I2.alloc _).app hgrow3 (by rw [List.flatMap_append, List.length_append]; simpa using hown3)⟩
                      case measure => simp [intOf]; omega
              · go_simp
                refine hK _ _ ?_
                clear hK K
                try simp only [Act.put, List.setIfInBounds_toArray, List.set_cons_zero, List.set_cons_succ]
                refine wpAny_ready (rs := [1]) (by kernel_rfl) (by simp) ?_
                refine AllReady.cons rfl (fun K hK => ?_) (AllReady.nil)
                · go_simp
                  refine hK _ _ ?_
                  clear hK K
                  try simp only [Act.put, List.setIfInBounds_toArray, List.set_cons_zero, List.set_cons_succ]
                  refine wpAny_ready (rs := [9]) (by kernel_rfl) (by simp) ?_
                  refine AllReady.cons rfl (fun K hK => ?_) (AllReady.nil)
                  · refine step_append_lies _ (by rfl) _ _ _ (by rfl) w.heap.size 68 i0 _ 4 48 Try.underlying24 hi hz0 hz1 hz2 rfl (by omega) v ys.length (ys.flatMap Rec.cells) (by simp [Act.eval, Act.put]) (I2.own.alloc _) ⟨w2.heap.size, 0, none⟩ 1 1 (cutR r1).cells (by simp [Act.eval, Act.put]) rfl (World.news_of_block (cs := (cutR r1).cells.toArray) (t := 68) (fr := (0, 0)) (heap_alloc_new w2 _)) (by simp [Value.oneCell', Rec.cells]) (by omega) (by unfold maxLen; omega) (by omega) (by have := I2.below.size; simp; omega) (w2.heap.size + 1) (by simp) ?_; intro gg cp w3 hown3 hgrow3 hat3 hlt3; have bb4 := (I2.alloc _).row hgrow3; obtain ⟨kk4, dd0, dd1, dd2, dd3⟩ := bb4.c4; have ff4 := fun i => Blk.frozen bb4 i
                    refine hK _ _ ?_
                    clear hK K
                    try simp only [Act.put, List.setIfInBounds_toArray, List.set_cons_zero, List.set_cons_succ]
                    refine wpAny_take (i := 10) (v := ?_) rfl (by kernel_rfl) (by kernel_rfl) (by kernel_rfl) (fun _ _ _ h => h) (Or.inl ⟨by kernel_rfl, ?_⟩) ?_
                    rotate_left
                    · intro w; go_simp
                      try with_reducible rfl
                    try simp only [Act.put, List.setIfInBounds_toArray, List.set_cons_zero, List.set_cons_succ]
                    refine wpAny_ready (rs := [11]) (by kernel_rfl) (by simp) ?_
                    refine AllReady.cons rfl (fun K hK => ?_) (AllReady.nil)
                    · go_simp
                      refine hK _ _ ?_
                      clear hK K
                      try simp only [Act.put, List.setIfInBounds_toArray, List.set_cons_zero, List.set_cons_succ]
                      refine wpAny_done (by kernel_rfl) ?_ _
                      go_wp2_with fail
                      go_roundw
                      case rel => exact ⟨j + 1, _, by go_num, by omega, by omega, by rw [HS.out]; exact (I2.alloc _).app hgrow3 (by rw [List.flatMap_append, List.length_append]; simpa using hown3)⟩
                      case measure => simp [intOf]; omega
      · have hj3 : j = 20 := by omega
        have hq : (l.take j).map cutR = cutRs l := by rw [hj3]; rfl
        have hq2 : ¬ (j : Int) < 20 := by omega
        rw [hq] at hI
        clear hq hj3 hj20
        have hrin := recs_own hI.own
        obtain ⟨ao, cp, rfl⟩ := hrin.form
        have A4 := (((hI.rs.set 0 (.int .i64 p)).set 1 (.int .i64 q)).set 2 (.int .i64 r)).set 3 (.slice ao (cutRs l).length cp)
        go_wp2_with fail
        refine bodyPost_ret (results_cell_row rfl _ _ (w.heap.size + 1) 26 #[.int .i64 p, .int .i64 q, .int .i64 r, .slice ao (cutRs l).length cp] (0, 0) _ rfl A4 Try.underlying26 rfl (by kernel_rfl)) rfl ?_
        refine hR.out _ _ ?_ ((((hI.below.setCell (p := ⟨w.heap.size + 1, 0, none⟩) (by simp) _).setCell (p := ⟨w.heap.size + 1, 1, none⟩) (by simp) _).setCell (p := ⟨w.heap.size + 1, 2, none⟩) (by simp) _).setCell (p := ⟨w.heap.size + 1, 3, none⟩) (by simp) _)
        exact ((hI.own.kept (row := some (w.heap.size + 1)) (grown_set (grown_set (grown_set (grown_set (grown_refl _ _) _ _) _ _) _ _) _ _) (.inr (Ne.symm (own_ne hI.own hI.rs (by decide))))))
    · have hq : (l.take j).map cutR = cutRs l := by unfold cutRs; rw [List.take_of_length_le (by omega), List.take_of_length_le (by omega)]
      rw [hq] at hI
      clear hq
      have hrin := recs_own hI.own
      obtain ⟨ao, cp, rfl⟩ := hrin.form
      have A4 := (((hI.rs.set 0 (.int .i64 p)).set 1 (.int .i64 q)).set 2 (.int .i64 r)).set 3 (.slice ao (cutRs l).length cp)
      go_wp2_with fail
      refine bodyPost_ret (results_cell_row rfl _ _ (w.heap.size + 1) 26 #[.int .i64 p, .int .i64 q, .int .i64 r, .slice ao (cutRs l).length cp] (0, 0) _ rfl A4 Try.underlying26 rfl (by kernel_rfl)) rfl ?_
      refine hR.out _ _ ?_ ((((hI.below.setCell (p := ⟨w.heap.size + 1, 0, none⟩) (by simp) _).setCell (p := ⟨w.heap.size + 1, 1, none⟩) (by simp) _).setCell (p := ⟨w.heap.size + 1, 2, none⟩) (by simp) _).setCell (p := ⟨w.heap.size + 1, 3, none⟩) (by simp) _)
      exact ((hI.own.kept (row := some (w.heap.size + 1)) (grown_set (grown_set (grown_set (grown_set (grown_refl _ _) _ _) _ _) _ _) _ _) (.inr (Ne.symm (own_ne hI.own hI.rs (by decide))))))
end Go.Proofs.Ythiliodmbipikaa
