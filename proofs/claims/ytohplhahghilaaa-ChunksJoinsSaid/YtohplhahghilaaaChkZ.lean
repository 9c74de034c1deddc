import Derived.Test.YtohplhahghilaaaChkK
import Derived.Test.YtohplhahghilaaaChkL
import Derived.Test.YtohplhahghilaaaChkM
import Derived.Test.YtohplhahghilaaaChkN
import Derived.Test.YtohplhahghilaaaChkO
import Derived.Test.YtohplhahghilaaaChkQ
import Derived.Test.YtohplhahghilaaaChkF
import Derived.Test.YtohplhahghilaaaChkH
import Derived.Test.YtohplhahghilaaaSegN
/-
  Several texts in one: ChkR, ChkS.
-/
set_option linter.unusedVariables false
set_option linter.unusedSimpArgs false
namespace Go.Proofs.Ytohplhahghilaaa
open Go.RowKit

theorem take7 (p m d : Nat) (n : Int) (L : List (Int × List UInt8)) (c : Chk) (w : World) (h : JAt w p m d n L) (hL : L.length < maxLen) (hn : L = [] → True) :
    JCall 29 #[.pointer (some ⟨p, 0, none⟩), c.val] w p m d (.int .i64 ((jtake d n L c).1 : Nat)) (jtake d n L c).2.1 (jtake d n L c).2.2 := by
  unfold jtake
  by_cases hr : c.right = false
  · rw [if_pos hr]; exact take7_bad p m d n L c w h hr
  · have hr' : c.right = true := by simpa using hr
    rw [if_neg hr]
    by_cases hx : c.d ≠ d ∨ (L ≠ [] ∧ c.n ≠ n) ∨ (∃ x, mfind L c.i = some x ∧ x ≠ c.b)
    · rw [if_pos hx]; exact take7_other p m d n L c w h hL hr' hx
    · rw [if_neg hx]
      have h1 : c.d = d := Decidable.not_not.1 fun e => hx (.inl e)
      by_cases h2 : L = []
      · exact take7_first p m d n L c w h hL hr' h1 h2
      · have h3 : c.n = n := Decidable.not_not.1 fun e => hx (.inr (.inl ⟨h2, e⟩))
        cases h4 : mfind L c.i with
        | none => exact take7_next p m d n L c w h hL hr' h1 ⟨h2, h3, h4⟩
        | some x =>
          have h5 : x = c.b := Decidable.not_not.1 fun e => hx (.inr (.inr ⟨x, h4, e⟩))
          exact take7_again p m d n L c w h hL hr' h1 ⟨h2, h3, by rw [h4, h5]⟩
theorem splitN_le {len size : Nat} (h1 : 1 ≤ size) : splitN len size ≤ max 1 len := by
  unfold splitN
  have h4 := Nat.div_mul_le_self (len + size - 1) size
  by_cases h : (len + size - 1) / size ≤ max 1 len
  · omega
  · exfalso
    obtain ⟨q, hq⟩ : ∃ q, (len + size - 1) / size = q + 1 := ⟨(len + size - 1) / size - 1, by omega⟩
    rw [hq, Nat.add_mul] at h4
    have := Nat.mul_le_mul_left q h1
    omega
theorem split7 (s : List UInt8) (size : Int) (w : World) (hs : s.length ≤ 4096) : ChksCall 19 #[.string (S s), .int .i64 size] w (if serr s size = 0 then chunksOf s size.toNat else []) (serr s size) := by
  by_cases h : size < 1 ∨ 4096 < size
  · have e : serr s size = 1 := by unfold serr; rw [if_pos h]
    rw [e]
    exact split7_arg s size w h
  · obtain ⟨k, rfl⟩ := Int.eq_ofNat_of_zero_le (show 0 ≤ size by omega)
    have h1 : 1 ≤ k := by omega
    have h2 := splitN_le (len := s.length) h1
    have e : serr s k = 0 := by unfold serr; rw [if_neg h, Int.toNat_natCast, if_neg (by omega)]
    rw [e, if_pos rfl, Int.toNat_natCast]
    exact split7_ok s k w h1 (by omega) (by omega) (by omega)
end Go.Proofs.Ytohplhahghilaaa

set_option linter.unusedVariables false
set_option linter.unusedSimpArgs false
namespace Go.Proofs.Ytohplhahghilaaa
open Go.RowKit

def abcde : List UInt8 := [97, 98, 99, 100, 101]
def ck (d : Nat) (i : Int) (b : List UInt8) : Chk := ⟨i, 3, d, b⟩
def cks (d : Nat) : List Chk := [ck d 0 [97, 98], ck d 1 [99, 100], ck d 2 [101]]
theorem cks_split : chunksOf abcde 2 = cks (digest abcde) := by
  have h : splitN abcde.length 2 = 3 := by decide
  unfold chunksOf
  have e : ∀ i, chunkOf abcde 2 i = ck (digest abcde) i (piece abcde 2 i) := fun i => by unfold chunkOf ck; rw [h]; rfl
  rw [h, show List.range 3 = [0, 1, 2] from rfl]
  simp only [List.map_cons, List.map_nil, e]
  rfl
theorem fix_split (w : World) : ChksCall 19 #[.string (S [97, 98, 99, 100, 101]), .int .i64 2] w (cks (digest abcde)) 0 := by
  have := split7_ok abcde 2 w (by decide) (by decide) (by decide) (by decide)
  rwa [cks_split] at this
/-- Three chunks in a row, cell by cell. -/
def Row3 (w : World) (g d : Nat) : Prop := g < w.heap.size ∧ ChkAt w g 0 (ck d 0 [97, 98]) ∧ ChkAt w g 4 (ck d 1 [99, 100]) ∧ ChkAt w g 8 (ck d 2 [101])
theorem Row3.kept {w W : World} {g d : Nat} {bs : List Nat} (h : Row3 w g d) (k : Kept bs w W) (hg : g ∉ bs) : Row3 W g d :=
  ⟨Nat.lt_of_lt_of_le h.1 k.size, h.2.1.keep fun i => k.cell h.1 hg i, h.2.2.1.keep fun i => k.cell h.1 hg i, h.2.2.2.keep fun i => k.cell h.1 hg i⟩
theorem Row3.below {w W : World} {g d : Nat} (h : Row3 w g d) (b : Below w.heap.size w W) : Row3 W g d := h.kept (Kept.ofBelow b []) (by simp)
theorem row3_own {w : World} {B d : Nat} {v : Value} (h : w.ownsRow B 38 4 v (cks d).length ((cks d).flatMap Chk.cells)) : ∃ g cap, v = .slice (some ⟨g, 0, none⟩) 3 cap ∧ B ≤ g ∧ 3 ≤ cap ∧ Row3 w g d := by
  rcases id h.2 with ⟨rfl, h0⟩ | ⟨g, cap, cur, rfl, hbg, hg, hcap, rest⟩
  · exact absurd h0 (by simp [cks])
  · refine ⟨g, cap, rfl, hbg, hcap, ?_⟩
    have hc := chks_own h
    rcases hc with ⟨h0, _⟩ | ⟨b, off, cap', hs, _, _, hlt, hf⟩
    · exact absurd h0 (by simp [cks])
    · simp only [Value.slice.injEq, Option.some.injEq, Addr.mk.injEq, and_true] at hs
      obtain ⟨⟨rfl, rfl⟩, _, _⟩ := hs
      exact ⟨hlt, hf 0 (by simp [cks]), hf 1 (by simp [cks]), hf 2 (by simp [cks])⟩
/-- The cells, for the walk. -/
theorem Row3.cells {w : World} {g d : Nat} (h : Row3 w g d) : g < w.heap.size ∧
    (w.cell? ⟨g, 0, none⟩ = some (.int .i64 0) ∧ w.cell? ⟨g, 1, none⟩ = some (.int .i64 3) ∧ w.cell? ⟨g, 2, none⟩ = some (.int .u64 (d : Nat)) ∧ w.cell? ⟨g, 3, none⟩ = some (.string (S [97, 98]))) ∧
    (w.cell? ⟨g, 4, none⟩ = some (.int .i64 1) ∧ w.cell? ⟨g, 5, none⟩ = some (.int .i64 3) ∧ w.cell? ⟨g, 6, none⟩ = some (.int .u64 (d : Nat)) ∧ w.cell? ⟨g, 7, none⟩ = some (.string (S [99, 100]))) ∧
    (w.cell? ⟨g, 8, none⟩ = some (.int .i64 2) ∧ w.cell? ⟨g, 9, none⟩ = some (.int .i64 3) ∧ w.cell? ⟨g, 10, none⟩ = some (.int .u64 (d : Nat)) ∧ w.cell? ⟨g, 11, none⟩ = some (.string (S [101]))) := h

def L1 : List (Int × List UInt8) := [(2, [101])]
def L2 : List (Int × List UInt8) := [(2, [101]), (0, [97, 98])]
def L3 : List (Int × List UInt8) := [(2, [101]), (0, [97, 98]), (1, [99, 100])]
section
variable (p m d : Nat) (w : World)
theorem fix_take1 (h : JAt w p m d 0 []) : JCall 29 #[.pointer (some ⟨p, 0, none⟩), .agg #[.int .i64 2, .int .i64 3, .int .u64 (d : Nat), .string (S [101])]] w p m d (.int .i64 0) 3 L1 :=
  take7_first p m d 0 [] (ck d 2 [101]) w h (by decide) (by simp [Chk.right, ck]) rfl rfl
theorem fix_take2 (h : JAt w p m d 3 L1) : JCall 29 #[.pointer (some ⟨p, 0, none⟩), .agg #[.int .i64 0, .int .i64 3, .int .u64 (d : Nat), .string (S [97, 98])]] w p m d (.int .i64 0) 3 L2 :=
  take7_next p m d 3 L1 (ck d 0 [97, 98]) w h (by decide) (by simp [Chk.right, ck]) rfl ⟨by decide, rfl, rfl⟩
theorem fix_take3 (d' : Nat) (hd : d' ≠ d) (h : JAt w p m d 3 L2) : JCall 29 #[.pointer (some ⟨p, 0, none⟩), .agg #[.int .i64 1, .int .i64 3, .int .u64 (d' : Nat), .string (S [99, 100])]] w p m d (.int .i64 71) 3 L2 :=
  take7_other p m d 3 L2 (ck d' 1 [99, 100]) w h (by decide) (by simp [Chk.right, ck]) (.inl hd)
theorem fix_take4 (h : JAt w p m d 3 L2) : JCall 29 #[.pointer (some ⟨p, 0, none⟩), .agg #[.int .i64 1, .int .i64 3, .int .u64 (d : Nat), .string (S [99, 100])]] w p m d (.int .i64 0) 3 L3 :=
  take7_next p m d 3 L2 (ck d 1 [99, 100]) w h (by decide) (by simp [Chk.right, ck]) rfl ⟨by decide, rfl, rfl⟩
theorem fix_take5 (h : JAt w p m d 3 L3) : JCall 29 #[.pointer (some ⟨p, 0, none⟩), .agg #[.int .i64 0, .int .i64 2, .int .u64 0, .string (S [])]] w p m d (.int .i64 70) 3 L3 :=
  take7_bad p m d 3 L3 ⟨0, 2, 0, []⟩ w h rfl
theorem fix_missing (h : JAt w p m d 3 L2) : NumsCall 28 #[.pointer (some ⟨p, 0, none⟩)] w [1] := missing7 p m d 3 L2 w h (by decide) (by decide)
theorem fix_whole1 (h : JAt w p m d 3 L2) : RetB Try.prog 27 #[.pointer (some ⟨p, 0, none⟩)] w (.tuple #[.string (S []), .bool false]) := whole7_no p m d 3 L2 w h (.inr (by decide))
theorem fix_whole2 (h : JAt w p m d 3 L3) (hd : digest abcde = d) : RetB Try.prog 27 #[.pointer (some ⟨p, 0, none⟩)] w (.tuple #[.string (S [97, 98, 99, 100, 101]), .bool true]) :=
  whole7_yes p m d 3 L3 w h (by decide) (by decide) (by decide) (by decide) hd
end
theorem fix_put (d : Nat) (hd : d < 18446744073709551616) (w : World) : RetB Try.prog 21 #[.agg #[.int .i64 0, .int .i64 3, .int .u64 (d : Nat), .string (S [97, 98])]] w (.tuple #[.string (S (ck d 0 [97, 98]).text), .int .i64 0]) :=
  put7_ok (ck d 0 [97, 98]) w (by simp [Chk.right, ck]) hd
theorem ctext_le {c : Chk} (h : c.b.length ≤ 4096) : c.text.length ≤ 5000 := by
  have h1 := vput_le c.i.toNat
  have h2 := vput_le c.n.toNat
  have h3 := vput_le c.d
  have h4 := crcFrame_le c.b
  simp only [Chk.text, List.length_append]
  omega
theorem fix_get (d : Nat) (hd : d < 18446744073709551616) (w : World) : RetB Try.prog 23 #[.string (S (ck d 0 [97, 98]).text)] w (.tuple #[.agg #[.int .i64 0, .int .i64 3, .int .u64 (d : Nat), .string (S [97, 98])], .int .i64 0]) := by
  have h := get7 (ck d 0 [97, 98]).text w (by have := ctext_le (c := ck d 0 [97, 98]) (by simp [ck]); omega)
  rw [cget_text (by simp [Chk.right, ck]) hd] at h
  exact h
def f7 : Fnd := ⟨7, r0⟩
theorem fix_text (v : Value) (w : World) (h : FndsIn w v [f7]) : RetB Try.prog 11 #[.agg #[.int .i64 5, .int .i64 9, v]] w (.tuple #[.string (S [5, 9, 1, 2, 0, 0]), .int .i64 0]) := by
  have h := text7_ok 5 9 v [f7] w h (fun f hf => by simp only [List.mem_singleton] at hf; subst hf; exact ⟨by unfold maxLen; decide, by unfold maxLen; decide⟩) (by decide +kernel)
  rwa [show stext 5 9 [f7] = [5, 9, 1, 2, 0, 0] by decide +kernel] at h
theorem fix_parse1 (w : World) : Calls Try.prog 13 #[.string (S [5, 9, 1, 2, 0, 0])] w fun x w' => Below w.heap.size w w' ∧ ∃ v, x = .returned (.tuple #[.agg #[.int .i64 5, .int .i64 9, v], .int .i64 0]) ∧ ∃ a c, v = .slice a 1 c := by
  have h1 : stext 5 9 [f7] = [5, 9, 1, 2, 0, 0] := by decide +kernel
  have h2 : lerr 5 9 [f7] = 0 := by decide +kernel
  refine (parse7 [5, 9, 1, 2, 0, 0] w (by decide)).mono fun x w' ⟨hb, hx⟩ => ⟨hb, ?_⟩
  rcases hx with ⟨base, next, v, l, rfl, ho, he, hs⟩ | ⟨_, hn⟩
  · obtain ⟨rfl, rfl, rfl⟩ := stext_inj he h2 (hs.trans h1.symm)
    obtain ⟨a, c, rfl⟩ := own_form ho
    exact ⟨_, rfl, a, c, rfl⟩
  · exact absurd h1 (hn 5 9 [f7] h2)
theorem fix_parse2 (w : World) : RetB Try.prog 13 #[.string (S [5, 4, 0])] w (.tuple #[.agg #[.int .i64 0, .int .i64 0, .slice none 0 0], .int .i64 70]) := by
  refine (parse7 [5, 4, 0] w (by decide)).mono fun x w' ⟨hb, hx⟩ => ?_
  rcases hx with ⟨base, next, v, l, _, _, he, hs⟩ | ⟨hx, _⟩
  · exfalso
    obtain ⟨b1, b2, n1, n2, bn, _⟩ := lerr_ok he
    obtain ⟨p1, p2, c1, c2, c3⟩ := head_at he hs
    have e1 : cnum [5, 4, 0] 0 false = (5, 1, false) := by decide +kernel
    rw [e1] at c1
    simp only [Prod.mk.injEq, and_true] at c1
    obtain ⟨c4, rfl⟩ := c1
    have e2 : cnum [5, 4, 0] 1 false = (4, 2, false) := by decide +kernel
    rw [e2] at c2
    simp only [Prod.mk.injEq, and_true] at c2
    omega
  · exact ⟨hx, hb⟩
theorem fix_split0 (w : World) : ChksCall 19 #[.string (S [97]), .int .i64 0] w [] 1 := split7_arg [97] 0 w (by decide)
end Go.Proofs.Ytohplhahghilaaa
