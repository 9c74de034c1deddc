/-
  The walk of CrcZeros.
-/
import Derived.Test.YtdgeljfiobmkcaaCrcQ
import Derived.Deep.RegionHeld3
set_option linter.unusedVariables false
set_option linter.unusedSimpArgs false
namespace Go.Proofs.Ytdgeljfiobmkcaa.crcZeros
open Go.RowKit
attribute [local go_sem] ByteArray.extract_mk ByteArray.mk_append_mk

/-- The bytes of a row of one cell, wherever it lies. -/
theorem convAt (x : Nat) (W : World) (g : Nat) (h : W.cell? ⟨g, 0, none⟩ = some (.int .u8 x)) :
    (convert 48 9 (.slice (some ⟨g, 0, none⟩) 1 1)).run Try.prog W = .ok (.string (S [UInt8.ofNat x])) W := by
  have := conv1 (P := Try.prog) Try.underlying48 Try.underlying5 Try.underlying9 W g 1 x h
  rwa [strOfNums_one] at this
@[local go_sem] theorem sz1 (n : Nat) : (n < n + 1) = True := by simp
@[local go_sem] theorem sz2 (n : Nat) : (n < n + 1 + 1) = True := by simp; omega
@[local go_sem] theorem szd (W : World) : W.drew.heap.size = W.heap.size := rfl
@[local go_sem] theorem sza (W : World) (o : Obj) : (W.alloc o).heap.size = W.heap.size + 1 := by simp
theorem sum_same (l : List UInt8) {a b : Nat} (ha : a < 256) (hb : b < 256) : ((crcSum (l ++ [UInt8.ofNat a]) : Int) == (crcSum (l ++ [UInt8.ofNat b]) : Int)) = ((a : Int) == (b : Int)) := by
  by_cases h : a = b
  · subst h; simp
  · have : ¬ crcSum (l ++ [UInt8.ofNat a]) = crcSum (l ++ [UInt8.ofNat b]) := by
      intro e
      have e2 := congrArg UInt8.toNat (sum_apart (s := 0) (by decide) l [] e)
      simp only [UInt8.toNat_ofNat'] at e2
      omega
    rw [beq_eq_false_iff_ne.2 (by omega), beq_eq_false_iff_ne.2 (by omega)]
theorem below_all {w W : World} {o : Obj} (h : Below w.heap.size w W) : Below w.heap.size w (W.alloc o) := h.alloc h.size o
set_option maxHeartbeats 4000000 in
set_option maxRecDepth 100000 in
theorem walk (s : List UInt8) (a b : Nat) (hs : s.length ≤ maxLen) (ha : 0 ≤ (a : Int) ∧ (a : Int) < 256) (hb : 0 ≤ (b : Int) ∧ (b : Int) < 256) (w : World) :
    RetB Try.prog 16 #[.string (S s), .int .u8 a, .int .u8 b] w (.bool true) := by
  refine RetB.intro fun R hR => ?_
  unfold maxLen at hs
  have q1 : ((min (s.length : Int) 200).toNat) = min s.length 200 := by omega
  obtain ⟨l, hl⟩ : ∃ l, s.take (min s.length 200) = l := ⟨_, rfl⟩
  have hll : l.length ≤ 200 := by rw [← hl, List.length_take]; omega
  have hadd : ¬ 9223372036854775807 < l.length + 1 := by omega
  have cA := convAt a
  have cB := convAt b
  have eA : l.length ≤ maxLen := by unfold maxLen; omega
  have eB : (l ++ [UInt8.ofNat a]).length ≤ maxLen := by rw [List.length_append, List.length_singleton]; unfold maxLen; omega
  have eC : (l ++ [UInt8.ofNat b]).length ≤ maxLen := by rw [List.length_append, List.length_singleton]; unfold maxLen; omega
  have eD : [UInt8.ofNat a].length ≤ maxLen := by rw [List.length_singleton]; decide
  have hm := sum_snoc l [UInt8.ofNat a]
  have s1 := sum_bd l
  have hd : ((crcSum (l ++ [UInt8.ofNat a]) : Int) == (crcSum (l ++ [UInt8.ofNat b]) : Int)) = ((a : Int) == (b : Int)) := sum_same l (by omega) (by omega)
  obtain ⟨q, hq⟩ : ∃ q, ((a : Int) == (b : Int)) = q := ⟨_, rfl⟩
  rw [hq] at hd
  obtain ⟨F, hF⟩ : ∃ F, F = crcSum := ⟨_, rfl⟩
  obtain ⟨G, hG⟩ : ∃ G, G = crcMore := ⟨_, rfl⟩
  have cS : ∀ (t : List UInt8) (w : World), t.length ≤ maxLen → RetB Try.prog 31 #[.string (S t)] w (.int .u32 (F t : Nat)) := by rw [hF]; exact sum_any
  have cM : ∀ (n : Nat) (t : List UInt8) (w : World), n < 4294967296 → t.length ≤ maxLen → RetB Try.prog 33 #[.int .u32 (n : Nat), .string (S t)] w (.int .u32 (G n t : Nat)) := by rw [hG]; exact more_any
  rw [← hF] at hd hm s1
  rw [← hG] at hm
  clear hF hG
  go_enter Try.func16, Try.ntmps16
  go_wp2_with fail
  rename_i K hK0
  have hK : ∀ (v1 v2 : Value) (W : World), Below w.heap.size w W → K { tmps := #[Value.string (S l), Value.int IntKind.u8 (a : Int), Value.int IntKind.u8 (b : Int), undef, undef, undef, Value.bool false, Value.int IntKind.u32 (F (l ++ [UInt8.ofNat a]) : Int), Value.int IntKind.u32 (F (l ++ [UInt8.ofNat b]) : Int), Value.string (S s), Value.string (S s), Value.int IntKind.i64 (s.length : Int), Value.int IntKind.i64 (min (s.length : Int) 200), Value.string (S l), Value.string (S l), Value.int IntKind.u8 (a : Int), v1, Value.string (S [UInt8.ofNat a]), Value.string (S (l ++ [UInt8.ofNat a])), Value.int IntKind.u32 (F (l ++ [UInt8.ofNat a]) : Int), Value.string (S l), Value.int IntKind.u8 (b : Int), v2, Value.string (S [UInt8.ofNat b]), Value.string (S (l ++ [UInt8.ofNat b])), Value.int IntKind.u32 (F (l ++ [UInt8.ofNat b]) : Int), undef, undef, undef, undef, undef, undef, undef, undef, undef, undef, undef, undef, undef, undef, undef, undef, undef, undef, undef, undef], defers := [] } W := by
    intro v1 v2 W hB
    have hB2 := hB.drew
    apply hK0
    clear hK0 cB
    go_wp2_with fail
    refine wp_region_noPanic ?_
    cases q
    all_goals
      refine wp_region_any (by kernel_rfl) ?_
      try (change wpAny _ _ _ _ _ _ _ (World.drew _))
      refine wpAny_take (i := 0) (v := ?_) rfl (by kernel_rfl) (by kernel_rfl) (by kernel_rfl) (fun _ _ _ h => h) (Or.inl ⟨by kernel_rfl, ?_⟩) ?_
      rotate_left
      · intro w; go_simp
        try with_reducible rfl
      try simp only [Act.put, List.setIfInBounds_toArray, List.set_cons_zero, List.set_cons_succ]
      refine wpAny_take (i := 1) (v := ?_) rfl (by kernel_rfl) (by kernel_rfl) (by kernel_rfl) (fun _ _ _ h => h) (Or.inl ⟨by kernel_rfl, ?_⟩) ?_
      rotate_left
      · intro w; go_simp
        try with_reducible rfl
      try simp only [Act.put, List.setIfInBounds_toArray, List.set_cons_zero, List.set_cons_succ]
      refine wpAny_take (i := 2) (v := ?_) rfl (by kernel_rfl) (by kernel_rfl) (by kernel_rfl) (fun _ _ _ h => h) (Or.inl ⟨by kernel_rfl, ?_⟩) ?_
      rotate_left
      · intro w; go_simp
        try with_reducible rfl
      try simp only [Act.put, List.setIfInBounds_toArray, List.set_cons_zero, List.set_cons_succ]
      refine wpAny_take (i := 3) (v := ?_) rfl (by kernel_rfl) (by kernel_rfl) (by kernel_rfl) (fun _ _ _ h => h) (Or.inl ⟨by kernel_rfl, ?_⟩) ?_
      rotate_left
      · intro w; go_simp
        try with_reducible rfl
      try simp only [Act.put, List.setIfInBounds_toArray, List.set_cons_zero, List.set_cons_succ]
      refine wpAny_take (i := 4) (v := ?_) rfl (by kernel_rfl) (by kernel_rfl) (by kernel_rfl) (fun _ _ _ h => h) (Or.inl ⟨by kernel_rfl, ?_⟩) ?_
      rotate_left
      · intro w; go_simp
        try with_reducible rfl
      try simp only [Act.put, List.setIfInBounds_toArray, List.set_cons_zero, List.set_cons_succ]
      refine wpAny_take (i := 5) (v := ?_) rfl (by kernel_rfl) (by kernel_rfl) (by kernel_rfl) (fun _ _ _ h => h) (Or.inl ⟨by kernel_rfl, ?_⟩) ?_
      rotate_left
      · intro w; go_simp
        try with_reducible rfl
      try simp only [Act.put, List.setIfInBounds_toArray, List.set_cons_zero, List.set_cons_succ]
      refine wpAny_take (i := 6) (v := ?_) rfl (by kernel_rfl) (by kernel_rfl) (by kernel_rfl) (fun _ _ _ h => h) (Or.inl ⟨by kernel_rfl, ?_⟩) ?_
      rotate_left
      · intro w; go_simp
        try with_reducible rfl
      try simp only [Act.put, List.setIfInBounds_toArray, List.set_cons_zero, List.set_cons_succ]
      refine wpAny_take (i := 7) (v := ?_) rfl (by kernel_rfl) (by kernel_rfl) (by kernel_rfl) (fun _ _ _ h => h) (Or.inl ⟨by kernel_rfl, ?_⟩) ?_
      rotate_left
      · intro w; go_simp
        try with_reducible rfl
      try simp only [Act.put, List.setIfInBounds_toArray, List.set_cons_zero, List.set_cons_succ]
      refine wpAny_take (i := 8) (v := ?_) rfl (by kernel_rfl) (by kernel_rfl) (by kernel_rfl) (fun _ _ _ h => h) (Or.inl ⟨by kernel_rfl, ?_⟩) ?_
      rotate_left
      · intro w; go_simp
        try with_reducible rfl
      try simp only [Act.put, List.setIfInBounds_toArray, List.set_cons_zero, List.set_cons_succ]
      refine wpAny_take (i := 9) (v := ?_) rfl (by kernel_rfl) (by kernel_rfl) (by kernel_rfl) (fun _ _ _ h => h) (Or.inl ⟨by kernel_rfl, ?_⟩) ?_
      rotate_left
      · intro w; go_simp
        try with_reducible rfl
      try simp only [Act.put, List.setIfInBounds_toArray, List.set_cons_zero, List.set_cons_succ]
      refine wpAny_take (i := 11) (v := ?_) rfl (by kernel_rfl) (by kernel_rfl) (by kernel_rfl) (fun _ _ _ h => h) (Or.inl ⟨by kernel_rfl, ?_⟩) ?_
      rotate_left
      · intro w; go_simp
        try with_reducible rfl
      try simp only [Act.put, List.setIfInBounds_toArray, List.set_cons_zero, List.set_cons_succ]
      refine wpAny_ready (rs := [10, 12]) (by kernel_rfl) (by simp) ?_
      refine AllReady.cons rfl (fun K hK => ?_) (AllReady.cons rfl (fun K hK => ?_) (AllReady.nil))
      · go_simp
        go_wp2_with (go_at_call 31; refine (cS l _ eA).use ?_; intro w2 hb2; have hc0 := fun (h : W.heap.size < _) => hb2.cell (p := ⟨W.heap.size, 0, none⟩) h)
        try simp only [Act.put, List.setIfInBounds_toArray, List.set_cons_zero, List.set_cons_succ]
        refine wpAny_ready (rs := [12]) (by kernel_rfl) (by simp) ?_
        refine AllReady.cons rfl (fun K hK => ?_) (AllReady.nil)
        · go_simp
          refine hK _ _ ?_
          clear hK K
          try simp only [Act.put, List.setIfInBounds_toArray, List.set_cons_zero, List.set_cons_succ]
          refine wpAny_ready (rs := [13]) (by kernel_rfl) (by simp) ?_
          refine AllReady.cons rfl (fun K hK => ?_) (AllReady.nil)
          · go_simp
            refine hK _ _ ?_
            clear hK K
            try simp only [Act.put, List.setIfInBounds_toArray, List.set_cons_zero, List.set_cons_succ]
            refine wpAny_ready (rs := [14]) (by kernel_rfl) (by simp) ?_
            refine AllReady.cons rfl (fun K hK => ?_) (AllReady.nil)
            · go_simp
              go_wp2_with (go_at_call 33; refine (cM (F l) [UInt8.ofNat a] _ s1 eD).use ?_; intro w3 hb3)
              try simp only [Act.put, List.setIfInBounds_toArray, List.set_cons_zero, List.set_cons_succ]
              refine wpAny_take (i := 15) (v := ?_) rfl (by kernel_rfl) (by kernel_rfl) (by kernel_rfl) (fun _ _ _ h => h) (Or.inl ⟨by kernel_rfl, ?_⟩) ?_
              rotate_left
              · intro w; go_simp
                try with_reducible rfl
              try simp only [Act.put, List.setIfInBounds_toArray, List.set_cons_zero, List.set_cons_succ]
              refine wpAny_take (i := 16) (v := ?_) rfl (by kernel_rfl) (by kernel_rfl) (by kernel_rfl) (fun _ _ _ h => h) (Or.inl ⟨by kernel_rfl, ?_⟩) ?_
              rotate_left
              · intro w; go_simp
                try with_reducible rfl
              try simp only [Act.put, List.setIfInBounds_toArray, List.set_cons_zero, List.set_cons_succ]
              refine wpAny_take (i := 17) (v := ?_) rfl (by kernel_rfl) (by kernel_rfl) (by kernel_rfl) (fun _ _ _ h => h) (Or.inl ⟨by kernel_rfl, ?_⟩) ?_
              rotate_left
              · intro w; go_simp
                try with_reducible rfl
              try simp only [Act.put, List.setIfInBounds_toArray, List.set_cons_zero, List.set_cons_succ]
              refine wpAny_ready (rs := [18]) (by kernel_rfl) (by simp) ?_
              refine AllReady.cons rfl (fun K hK => ?_) (AllReady.nil)
              · go_simp
                go_wp2_with (go_at_call 35; refine (fixed2 _).use ?_; intro w4 hb4)
                try simp only [Act.put, List.setIfInBounds_toArray, List.set_cons_zero, List.set_cons_succ]
                refine wpAny_take (i := 19) (oi := ⟨some 45, _, _, _, _, _⟩) (v := ?_) rfl (by kernel_rfl) (by kernel_rfl) (by kernel_rfl) (fun _ _ _ h => h) (Or.inl ⟨by kernel_rfl, ?_⟩) ?_
                rotate_left
                · intro w; go_simp
                  try with_reducible rfl
                try simp only [Act.put, List.setIfInBounds_toArray, List.set_cons_zero, List.set_cons_succ]
                refine wpAny_take (i := 20) (oi := ⟨some 6, _, _, _, _, _⟩) (v := ?_) rfl (by kernel_rfl) (by kernel_rfl) (by kernel_rfl) (fun _ _ _ h => h) (Or.inl ⟨by kernel_rfl, ?_⟩) ?_
                rotate_left
                · intro w; go_simp
                  try with_reducible rfl
                try simp only [Act.put, List.setIfInBounds_toArray, List.set_cons_zero, List.set_cons_succ]
                refine wpAny_done (by kernel_rfl) ?_ _
                refine NoPanic.normal ?_
                go_wp2_with fail
                exact finB hR (by repeat (first | assumption | exact Below.refl _ _ | refine below_all ?_ | refine below_any (Nat.le_refl _) ?_ (by assumption) | refine Below.drew ?_)) rfl
      · go_simp
        refine hK _ _ ?_
        clear hK K
        try simp only [Act.put, List.setIfInBounds_toArray, List.set_cons_zero, List.set_cons_succ]
        refine wpAny_ready (rs := [10, 13]) (by kernel_rfl) (by simp) ?_
        refine AllReady.cons rfl (fun K hK => ?_) (AllReady.cons rfl (fun K hK => ?_) (AllReady.nil))
        · go_simp
          go_wp2_with (go_at_call 31; refine (cS l _ eA).use ?_; intro w2 hb2; have hc0 := fun (h : W.heap.size < _) => hb2.cell (p := ⟨W.heap.size, 0, none⟩) h)
          try simp only [Act.put, List.setIfInBounds_toArray, List.set_cons_zero, List.set_cons_succ]
          refine wpAny_ready (rs := [13]) (by kernel_rfl) (by simp) ?_
          refine AllReady.cons rfl (fun K hK => ?_) (AllReady.nil)
          · go_simp
            refine hK _ _ ?_
            clear hK K
            try simp only [Act.put, List.setIfInBounds_toArray, List.set_cons_zero, List.set_cons_succ]
            refine wpAny_ready (rs := [14]) (by kernel_rfl) (by simp) ?_
            refine AllReady.cons rfl (fun K hK => ?_) (AllReady.nil)
            · go_simp
              go_wp2_with (go_at_call 33; refine (cM (F l) [UInt8.ofNat a] _ s1 eD).use ?_; intro w3 hb3)
              try simp only [Act.put, List.setIfInBounds_toArray, List.set_cons_zero, List.set_cons_succ]
              refine wpAny_take (i := 15) (v := ?_) rfl (by kernel_rfl) (by kernel_rfl) (by kernel_rfl) (fun _ _ _ h => h) (Or.inl ⟨by kernel_rfl, ?_⟩) ?_
              rotate_left
              · intro w; go_simp
                try with_reducible rfl
              try simp only [Act.put, List.setIfInBounds_toArray, List.set_cons_zero, List.set_cons_succ]
              refine wpAny_take (i := 16) (v := ?_) rfl (by kernel_rfl) (by kernel_rfl) (by kernel_rfl) (fun _ _ _ h => h) (Or.inl ⟨by kernel_rfl, ?_⟩) ?_
              rotate_left
              · intro w; go_simp
                try with_reducible rfl
              try simp only [Act.put, List.setIfInBounds_toArray, List.set_cons_zero, List.set_cons_succ]
              refine wpAny_take (i := 17) (v := ?_) rfl (by kernel_rfl) (by kernel_rfl) (by kernel_rfl) (fun _ _ _ h => h) (Or.inl ⟨by kernel_rfl, ?_⟩) ?_
              rotate_left
              · intro w; go_simp
                try with_reducible rfl
              try simp only [Act.put, List.setIfInBounds_toArray, List.set_cons_zero, List.set_cons_succ]
              refine wpAny_ready (rs := [18]) (by kernel_rfl) (by simp) ?_
              refine AllReady.cons rfl (fun K hK => ?_) (AllReady.nil)
              · go_simp
                go_wp2_with (go_at_call 35; refine (fixed2 _).use ?_; intro w4 hb4)
                try simp only [Act.put, List.setIfInBounds_toArray, List.set_cons_zero, List.set_cons_succ]
                refine wpAny_take (i := 19) (oi := ⟨some 45, _, _, _, _, _⟩) (v := ?_) rfl (by kernel_rfl) (by kernel_rfl) (by kernel_rfl) (fun _ _ _ h => h) (Or.inl ⟨by kernel_rfl, ?_⟩) ?_
                rotate_left
                · intro w; go_simp
                  try with_reducible rfl
                try simp only [Act.put, List.setIfInBounds_toArray, List.set_cons_zero, List.set_cons_succ]
                refine wpAny_take (i := 20) (oi := ⟨some 6, _, _, _, _, _⟩) (v := ?_) rfl (by kernel_rfl) (by kernel_rfl) (by kernel_rfl) (fun _ _ _ h => h) (Or.inl ⟨by kernel_rfl, ?_⟩) ?_
                rotate_left
                · intro w; go_simp
                  try with_reducible rfl
                try simp only [Act.put, List.setIfInBounds_toArray, List.set_cons_zero, List.set_cons_succ]
                refine wpAny_done (by kernel_rfl) ?_ _
                refine NoPanic.normal ?_
                go_wp2_with fail
                exact finB hR (by repeat (first | assumption | exact Below.refl _ _ | refine below_all ?_ | refine below_any (Nat.le_refl _) ?_ (by assumption) | refine Below.drew ?_)) rfl
        · go_simp
          refine hK _ _ ?_
          clear hK K
          try simp only [Act.put, List.setIfInBounds_toArray, List.set_cons_zero, List.set_cons_succ]
          refine wpAny_ready (rs := [10]) (by kernel_rfl) (by simp) ?_
          refine AllReady.cons rfl (fun K hK => ?_) (AllReady.nil)
          · go_simp
            go_wp2_with (go_at_call 31; refine (cS l _ eA).use ?_; intro w2 hb2; have hc0 := fun (h : W.heap.size < _) => hb2.cell (p := ⟨W.heap.size, 0, none⟩) h)
            try simp only [Act.put, List.setIfInBounds_toArray, List.set_cons_zero, List.set_cons_succ]
            refine wpAny_ready (rs := [14]) (by kernel_rfl) (by simp) ?_
            refine AllReady.cons rfl (fun K hK => ?_) (AllReady.nil)
            · go_simp
              go_wp2_with (go_at_call 33; refine (cM (F l) [UInt8.ofNat a] _ s1 eD).use ?_; intro w3 hb3)
              try simp only [Act.put, List.setIfInBounds_toArray, List.set_cons_zero, List.set_cons_succ]
              refine wpAny_take (i := 15) (v := ?_) rfl (by kernel_rfl) (by kernel_rfl) (by kernel_rfl) (fun _ _ _ h => h) (Or.inl ⟨by kernel_rfl, ?_⟩) ?_
              rotate_left
              · intro w; go_simp
                try with_reducible rfl
              try simp only [Act.put, List.setIfInBounds_toArray, List.set_cons_zero, List.set_cons_succ]
              refine wpAny_take (i := 16) (v := ?_) rfl (by kernel_rfl) (by kernel_rfl) (by kernel_rfl) (fun _ _ _ h => h) (Or.inl ⟨by kernel_rfl, ?_⟩) ?_
              rotate_left
              · intro w; go_simp
                try with_reducible rfl
              try simp only [Act.put, List.setIfInBounds_toArray, List.set_cons_zero, List.set_cons_succ]
              refine wpAny_take (i := 17) (v := ?_) rfl (by kernel_rfl) (by kernel_rfl) (by kernel_rfl) (fun _ _ _ h => h) (Or.inl ⟨by kernel_rfl, ?_⟩) ?_
              rotate_left
              · intro w; go_simp
                try with_reducible rfl
              try simp only [Act.put, List.setIfInBounds_toArray, List.set_cons_zero, List.set_cons_succ]
              refine wpAny_ready (rs := [18]) (by kernel_rfl) (by simp) ?_
              refine AllReady.cons rfl (fun K hK => ?_) (AllReady.nil)
              · go_simp
                go_wp2_with (go_at_call 35; refine (fixed2 _).use ?_; intro w4 hb4)
                try simp only [Act.put, List.setIfInBounds_toArray, List.set_cons_zero, List.set_cons_succ]
                refine wpAny_take (i := 19) (oi := ⟨some 45, _, _, _, _, _⟩) (v := ?_) rfl (by kernel_rfl) (by kernel_rfl) (by kernel_rfl) (fun _ _ _ h => h) (Or.inl ⟨by kernel_rfl, ?_⟩) ?_
                rotate_left
                · intro w; go_simp
                  try with_reducible rfl
                try simp only [Act.put, List.setIfInBounds_toArray, List.set_cons_zero, List.set_cons_succ]
                refine wpAny_take (i := 20) (oi := ⟨some 6, _, _, _, _, _⟩) (v := ?_) rfl (by kernel_rfl) (by kernel_rfl) (by kernel_rfl) (fun _ _ _ h => h) (Or.inl ⟨by kernel_rfl, ?_⟩) ?_
                rotate_left
                · intro w; go_simp
                  try with_reducible rfl
                try simp only [Act.put, List.setIfInBounds_toArray, List.set_cons_zero, List.set_cons_succ]
                refine wpAny_done (by kernel_rfl) ?_ _
                refine NoPanic.normal ?_
                go_wp2_with fail
                exact finB hR (by repeat (first | assumption | exact Below.refl _ _ | refine below_all ?_ | refine below_any (Nat.le_refl _) ?_ (by assumption) | refine Below.drew ?_)) rfl
  clear hK0
  have hB0 : Below w.heap.size w w.drew := (Below.refl _ _).drew
  refine wp_region_noPanic ?_
  go_region_with (first | (go_at_call 31; refine (cS _ _ (by assumption)).use ?_; intro w2 hb2; have hc0 := fun (h : w.heap.size < _) => hb2.cell (p := ⟨w.heap.size, 0, none⟩) h; have hc1 := fun (h : w.heap.size + 1 < _) => hb2.cell (p := ⟨w.heap.size + 1, 0, none⟩) h))
  all_goals exact hK _ _ _ (by repeat (first | assumption | exact Below.refl _ _ | refine below_all ?_ | refine below_any (Nat.le_refl _) ?_ (by assumption) | refine Below.drew ?_))
end Go.Proofs.Ytdgeljfiobmkcaa.crcZeros
