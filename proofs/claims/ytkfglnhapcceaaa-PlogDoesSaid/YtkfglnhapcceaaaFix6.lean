import Derived.Test.YtkfglnhapcceaaaLogT
import Derived.Test.YtkfglnhapcceaaaFix5
/-
  Layer 6: the calls whose answers the document fixes come out as it says.
-/
set_option linter.unusedVariables false
set_option linter.unusedSimpArgs false
namespace Go.Proofs.Ytkfglnhapcceaaa
open Go.RowKit
attribute [local go_sem] ByteArray.extract_mk ByteArray.mk_append_mk

theorem key6 (k v : List UInt8) (w : World) : RetB Try.prog 25 #[.string (S k), .string (S v)] w (.agg #[.bool true, .string (S k), .bool false, .string (S v)]) := by
  refine RetB.intro fun R hR => ?_
  go_enter Try.func25, Try.ntmps25
  go_wp2_with fail
  refine bodyPost_ret (results_cell_row rfl _ _ w.heap.size 29 #[.bool true, .string (S k), .bool false, .string (S v)] (0, 0) _ rfl (heap_alloc_new _ _) Try.underlying29 rfl (by kernel_rfl)) rfl ?_
  exact finB hR (below_all (Below.refl _ _)) rfl

def rkv (k v : UInt8) : Rec := ⟨true, [k], false, [v]⟩
def e0 : List Sd := [⟨0, 0, []⟩]
def e1 : List Sd := [⟨0, 2, [⟨0, rkv 97 49⟩, ⟨1, rkv 98 49⟩]⟩]
def e2 : List Sd := [⟨0, 2, [⟨0, rkv 97 49⟩, ⟨1, rkv 98 49⟩]⟩, ⟨2, 4, [⟨2, rkv 97 50⟩, ⟨3, rkv 99 49⟩]⟩]
def e3 : List Sd := [⟨0, 2, [⟨1, rkv 98 49⟩]⟩, ⟨2, 4, [⟨2, rkv 97 50⟩, ⟨3, rkv 99 49⟩]⟩]
def e4 : List Sd := [⟨2, 4, [⟨2, rkv 97 50⟩, ⟨3, rkv 99 49⟩]⟩]
def q1 : List Rec := [rkv 97 49, rkv 98 49]
def q2 : List Rec := [rkv 97 50, rkv 99 49]
def q3 : List Rec := List.replicate 3 rz5
theorem x1 : dapp 2 e0 q1 = e1 ∧ aerr6 2 e0 q1 = 0 ∧ dend e0 = 0 := by decide +kernel
theorem x2 : dapp 2 e1 q2 = e2 ∧ aerr6 2 e1 q2 = 0 ∧ dend e1 = 2 := by decide +kernel
theorem x3 : dapp 2 e2 q3 = e2 ∧ aerr6 2 e2 q3 = 2 := by decide +kernel
theorem x4 : dcmp e2 = e3 ∧ ncmp e2 = 1 := by decide +kernel
theorem x5 : dread 0 9 e3 = [⟨1, rkv 98 49⟩, ⟨2, rkv 97 50⟩, ⟨3, rkv 99 49⟩] ∧ rerr 0 e3 = 0 := by decide +kernel
theorem x6 : e3.drop (nret 2 e3) = e4 ∧ nret 2 e3 = 1 := by decide +kernel
theorem x7 : dread 1 1 e4 = [] ∧ rerr 1 e4 = 60 := by decide +kernel
theorem x8 : dread 5 1 e4 = [] ∧ rerr 5 e4 = 61 := by decide +kernel
theorem x9 : dread 4 1 e4 = [] ∧ rerr 4 e4 = 0 := by decide +kernel
theorem x10 : dstart e4 = 2 ∧ dend e4 = 4 ∧ fbytes (dall e4) = 10 := by decide +kernel
theorem x11 : Good 2 e4 := by decide +kernel
section
variable {R : Ending → World → Prop} {w : World} {g : Nat} {bs : List Nat}
theorem fa1 {v : Value} (h : LogD w g bs 2 e0) (hv : RecsIn w v q1) (ha : Away bs v) (k : ∀ cs w', LogD w' g cs 2 e1 → Kept bs w w' → (∀ x ∈ cs, x ∈ bs ∨ w.heap.size ≤ x) → R (.returned (.tuple #[.int .i64 0, .int .i64 0])) w') :
    Calls Try.prog 14 #[.pointer (some ⟨g, 0, none⟩), v] w R := by
  refine append6_use h (by decide) hv ha (bd_small _ (by decide +kernel)) ?_
  rw [x1.1, x1.2.1, x1.2.2]
  exact k
theorem fa2 {v : Value} (h : LogD w g bs 2 e1) (hv : RecsIn w v q2) (ha : Away bs v) (k : ∀ cs w', LogD w' g cs 2 e2 → Kept bs w w' → (∀ x ∈ cs, x ∈ bs ∨ w.heap.size ≤ x) → R (.returned (.tuple #[.int .i64 2, .int .i64 0])) w') :
    Calls Try.prog 14 #[.pointer (some ⟨g, 0, none⟩), v] w R := by
  refine append6_use h (by decide) hv ha (bd_small _ (by decide +kernel)) ?_
  rw [x2.1, x2.2.1, x2.2.2]
  exact k
theorem fa3 {v : Value} (h : LogD w g bs 2 e2) (hv : RecsIn w v q3) (ha : Away bs v) (k : ∀ cs w', LogD w' g cs 2 e2 → Kept bs w w' → (∀ x ∈ cs, x ∈ bs ∨ w.heap.size ≤ x) → R (.returned (.tuple #[.int .i64 0, .int .i64 2])) w') :
    Calls Try.prog 14 #[.pointer (some ⟨g, 0, none⟩), v] w R := by
  refine append6_use h (by decide) hv ha (bd_small _ (by decide +kernel)) ?_
  rw [x3.1, x3.2]
  exact k
theorem fa4 (h : LogD w g bs 2 e2) (k : ∀ cs w', LogD w' g cs 2 e3 → Kept bs w w' → (∀ x ∈ cs, x ∈ bs ∨ w.heap.size ≤ x) → R (.returned (.int .i64 1)) w') :
    Calls Try.prog 21 #[.pointer (some ⟨g, 0, none⟩)] w R := by
  refine compact6_use h (by decide) ?_
  rw [x4.1, x4.2]
  exact k
theorem fa5 (h : LogD w g bs 2 e3) (k : ∀ a cap w', w'.cell? ⟨a, 0, none⟩ = some (.int .i64 1) → w.heap.size ≤ a ∧ a < w'.heap.size → Below w.heap.size w w' → R (.returned (.tuple #[.slice (some ⟨a, 0, none⟩) 3 cap, .int .i64 0])) w') :
    Calls Try.prog 19 #[.pointer (some ⟨g, 0, none⟩), .int .i64 0, .int .i64 9] w R := by
  refine read6_use 0 9 h (by decide) (by decide) ?_
  rw [x5.1, x5.2]
  intro v w' o b
  rcases own_cases o with ⟨_, h0⟩ | ⟨a, cap, rfl, h1, h2, h3⟩
  · exact absurd h0 (by decide)
  · exact k a cap w' (by have := h3 0 (.int .i64 1) rfl; rwa [addr_add] at this) ⟨h1, h2⟩ b
theorem fa6 (h : LogD w g bs 2 e3) (k : ∀ cs w', LogD w' g cs 2 e4 → Kept bs w w' → (∀ x ∈ cs, x ∈ bs ∨ w.heap.size ≤ x) → R (.returned (.int .i64 1)) w') :
    Calls Try.prog 20 #[.pointer (some ⟨g, 0, none⟩), .int .i64 2] w R := by
  refine retain6_use 2 h (by decide) ?_
  rw [x6.1, x6.2]
  exact k
theorem fa7 (h : LogD w g bs 2 e4) (k : ∀ a c w', Below w.heap.size w w' → R (.returned (.tuple #[.slice a 0 c, .int .i64 60])) w') :
    Calls Try.prog 19 #[.pointer (some ⟨g, 0, none⟩), .int .i64 1, .int .i64 1] w R := by
  refine read6_use 1 1 h (by decide) (by decide) ?_
  rw [x7.1, x7.2]
  intro v w' o b
  obtain ⟨a, c, rfl⟩ := own_form o
  exact k a c w' b
theorem fa8 (h : LogD w g bs 2 e4) (k : ∀ a c w', Below w.heap.size w w' → R (.returned (.tuple #[.slice a 0 c, .int .i64 61])) w') :
    Calls Try.prog 19 #[.pointer (some ⟨g, 0, none⟩), .int .i64 5, .int .i64 1] w R := by
  refine read6_use 5 1 h (by decide) (by decide) ?_
  rw [x8.1, x8.2]
  intro v w' o b
  obtain ⟨a, c, rfl⟩ := own_form o
  exact k a c w' b
theorem fa9 (h : LogD w g bs 2 e4) (k : ∀ a c w', Below w.heap.size w w' → R (.returned (.tuple #[.slice a 0 c, .int .i64 0])) w') :
    Calls Try.prog 19 #[.pointer (some ⟨g, 0, none⟩), .int .i64 4, .int .i64 1] w R := by
  refine read6_use 4 1 h (by decide) (by decide) ?_
  rw [x9.1, x9.2]
  intro v w' o b
  obtain ⟨a, c, rfl⟩ := own_form o
  exact k a c w' b
end
/-- Three zero records' cells. -/
def zcells3 : Array Value := (q3.flatMap Rec.cells).toArray
theorem make3 (w : World) : (Instr.makeSlice 23 (.int .i64 3) (.int .i64 3)).run Try.prog w = .ok (.slice (some ⟨w.heap.size, 0, none⟩) 3 3) (w.alloc (.cells zcells3 29)) := by kernel_rfl
theorem segs_nil (w : World) : SegsIn w (.slice none 0 0) [] [] := .inl ⟨rfl, _, _, rfl⟩

set_option maxHeartbeats 8000000 in
set_option maxRecDepth 100000 in
theorem fixed6 (w : World) : RetB Try.prog 13 #[] w (.bool true) := by
  refine RetB.intro fun R hR => ?_
  have ck := fun k v w => key6 k v w
  go_enter Try.func13, Try.ntmps13
  go_wp2_with fail
  refine new6_use _ 2 (by decide) ?_
  intro g b1 w1 L1 B1 M1
  go_wp2_with fail
  refine (ck [97] [49] _).use ?_
  intro w2 B2
  go_wp2_with fail
  refine (ck [98] [49] _).use ?_
  intro w3 B3
  have L3 := (L1.below B2).below B3
  have G3 := below_any (Nat.le_refl _) (below_any (Nat.le_refl _) B1 B2) B3
  have r3 := recs_lit (w := w3) q1 #[.bool true, .string (S [97]), .bool false, .string (S [49]), .bool true, .string (S [98]), .bool false, .string (S [49])] rfl (by decide)
  have a3 : Away b1 (.slice (some ⟨w3.heap.size, 0, none⟩) 2 2) := away_new L3.lt
  have L4 := Lib.hid (L3.below (below_all (o := .cells #[.bool true, .string (S [97]), .bool false, .string (S [49]), .bool true, .string (S [98]), .bool false, .string (S [49])] 29) (Below.refl _ _)))
  have G4 := below_all (o := .cells #[.bool true, .string (S [97]), .bool false, .string (S [49]), .bool true, .string (S [98]), .bool false, .string (S [49])] 29) G3
  have R3 := Lib.hid r3
  clear L1 L3 B1 B2 B3 G3 r3
  go_wp2_with fail
  refine fa1 L4.out R3.out a3 ?_
  intro b2 w4 L5 K5 C5
  have G5 := Kept.below G4 K5 M1 G4.size
  have M5 : ∀ x ∈ b2, w.heap.size ≤ x := fun x hx => (C5 x hx).elim (M1 x) fun h => Nat.le_trans G4.size h
  clear L4 R3 K5 C5 G4 a3 M1
  go_wp2_with fail
  refine (ck [97] [50] _).use ?_
  intro w5 B2
  go_wp2_with fail
  refine (ck [99] [49] _).use ?_
  intro w6 B3
  have L6 := (L5.below B2).below B3
  have G6 := below_any (Nat.le_refl _) (below_any (Nat.le_refl _) G5 B2) B3
  have r6 := recs_lit (w := w6) q2 #[.bool true, .string (S [97]), .bool false, .string (S [50]), .bool true, .string (S [99]), .bool false, .string (S [49])] rfl (by decide)
  have a6 : Away b2 (.slice (some ⟨w6.heap.size, 0, none⟩) 2 2) := away_new L6.lt
  have L7 := Lib.hid (L6.below (below_all (o := .cells #[.bool true, .string (S [97]), .bool false, .string (S [50]), .bool true, .string (S [99]), .bool false, .string (S [49])] 29) (Below.refl _ _)))
  have G7 := below_all (o := .cells #[.bool true, .string (S [97]), .bool false, .string (S [50]), .bool true, .string (S [99]), .bool false, .string (S [49])] 29) G6
  have R6 := Lib.hid r6
  clear L5 L6 B2 B3 G5 G6 r6 ck
  go_wp2_with fail
  refine fa2 L7.out R6.out a6 ?_
  intro b3 w7 L8 K8 C8
  have G8 := Kept.below G7 K8 M5 G7.size
  have M8 : ∀ x ∈ b3, w.heap.size ≤ x := fun x hx => (C8 x hx).elim (M5 x) fun h => Nat.le_trans G7.size h
  have hm := make3
  have r8 : RecsIn (w7.alloc (.cells zcells3 29)) (.slice (some ⟨w7.heap.size, 0, none⟩) 3 3) q3 := recs_lit q3 zcells3 rfl (by decide)
  have a8 : Away b3 (.slice (some ⟨w7.heap.size, 0, none⟩) 3 3) := away_new L8.lt
  have L9 := Lib.hid (L8.below (below_all (o := .cells zcells3 29) (Below.refl _ _)))
  have G9 := below_all (o := .cells zcells3 29) G8
  have R8 := Lib.hid r8
  clear L7 R6 K8 C8 G7 a6 M5 r8 L8 G8
  go_wp2_with fail
  refine fa3 L9.out R8.out a8 ?_
  intro b4 w8 L10 K10 C10
  have G10 := Kept.below G9 K10 M8 G9.size
  have M10 : ∀ x ∈ b4, w.heap.size ≤ x := fun x hx => (C10 x hx).elim (M8 x) fun h => Nat.le_trans G9.size h
  clear L9 R8 K10 C10 G9 a8 M8 hm
  go_wp2_with fail
  refine fa4 L10 ?_
  intro b5 w9 L11 K11 C11
  have G11 := Kept.below G10 K11 M10 G10.size
  have M11 : ∀ x ∈ b5, w.heap.size ≤ x := fun x hx => (C11 x hx).elim (M10 x) fun h => Nat.le_trans G10.size h
  clear L10 K11 C11 G10 M10
  go_wp2_with fail
  refine fa5 L11 ?_
  intro a cap w10 ca ha B12
  have hna : a ∉ b5 := fun h => by have := L11.lt a h; omega
  have L12 := L11.below B12
  have G12 := below_any (Nat.le_refl _) G11 B12
  clear L11 B12 G11
  go_wp2_with fail
  refine fa6 L12 ?_
  intro b6 w11 L13 K13 C13
  have ca13 := (K13.cell ha.2 hna 0).trans ca
  have ha13 : a < w11.heap.size := Nat.lt_of_lt_of_le ha.2 K13.size
  have G13 := Kept.below G12 K13 M11 G12.size
  clear L12 K13 C13 G12 M11 ca hna ha
  go_wp2_with fail
  refine fa7 L13 ?_
  intro a7 c7 w12 B14
  have L14 := L13.below B14
  have G14 := below_any (Nat.le_refl _) G13 B14
  have ca14 := (B14.cell (p := ⟨a, 0, none⟩) ha13).trans ca13
  have ha14 : a < w12.heap.size := Nat.lt_of_lt_of_le ha13 B14.size
  clear L13 B14 G13 ca13 ha13
  go_wp2_with fail
  refine fa8 L14 ?_
  intro a8 c8 w13 B15
  have L15 := L14.below B15
  have G15 := below_any (Nat.le_refl _) G14 B15
  have ca15 := (B15.cell (p := ⟨a, 0, none⟩) ha14).trans ca14
  have ha15 : a < w13.heap.size := Nat.lt_of_lt_of_le ha14 B15.size
  clear L14 B15 G14 ca14 ha14
  go_wp2_with fail
  refine fa9 L15 ?_
  intro a9 c9 w14 B16
  have L16 := L15.below B16
  have G16 := below_any (Nat.le_refl _) G15 B16
  have ca16 := (B16.cell (p := ⟨a, 0, none⟩) ha15).trans ca15
  have ha16 : a < w14.heap.size := Nat.lt_of_lt_of_le ha15 B16.size
  clear L15 B16 G15 ca15 ha15
  have cs := span6D L16 (by decide)
  rw [x10.1, x10.2.1] at cs
  have CS := Lib.hid cs
  clear cs
  go_wp2_with fail
  refine CS.out.use ?_
  intro w15 B17
  have L17 := L16.below B17
  have G17 := below_any (Nat.le_refl _) G16 B17
  have ca17 := (B17.cell (p := ⟨a, 0, none⟩) ha16).trans ca16
  have ha17 : a < w15.heap.size := Nat.lt_of_lt_of_le ha16 B17.size
  clear L16 B17 G16 ca16 ha16 CS
  go_wp2_with fail
  refine (segs6D L17 (by decide)).use ?_
  intro v bs w16 SI hbs B18
  have L18 := L17.below B18
  have G18 := below_any (Nat.le_refl _) G17 B18
  have ca18 := (B18.cell (p := ⟨a, 0, none⟩) ha17).trans ca17
  have ha18 : a < w16.heap.size := Nat.lt_of_lt_of_le ha17 B18.size
  clear L17 B18 G17 ca17 ha17 hbs
  go_wp2_with fail
  refine load6_ok 2 v bs e4 w16 SI (by decide) x11 ?_
  intro g2 cs2 w17 LL B19 M19
  have L19 := L18.below B19
  have G19 := below_any (Nat.le_refl _) G18 B19
  have ca19 := (B19.cell (p := ⟨a, 0, none⟩) ha18).trans ca18
  have ha19 : a < w17.heap.size := Nat.lt_of_lt_of_le ha18 B19.size
  clear L18 B19 G18 ca18 ha18 LL M19 SI
  have cn := Lib.hid ((load6_no 2 (.slice none 0 0) [] [] w17 (segs_nil _) (by decide) (by simp) (by decide)).cast (v' := .tuple #[.pointer none, .int .i64 1]) rfl)
  go_wp2_with fail
  refine cn.out.use ?_
  intro w18 B20
  have L20 := L19.below B20
  have G20 := below_any (Nat.le_refl _) G19 B20
  have ca20 := (B20.cell (p := ⟨a, 0, none⟩) ha19).trans ca19
  have ha20 : a < w18.heap.size := Nat.lt_of_lt_of_le ha19 B20.size
  clear L19 B20 G19 ca19 ha19 cn
  have cb := bytes6D L20 (by decide)
  rw [x10.2.2] at cb
  have CB := Lib.hid cb
  clear cb
  go_wp2_with fail
  refine CB.out.use ?_
  intro w19 B21
  go_wp2_with fail
  exact finB hR (below_any (Nat.le_refl _) G20 B21) rfl
end Go.Proofs.Ytkfglnhapcceaaa
