import Derived.Test.YthiliodmbipikaaGreatSegP
import Derived.Deep.AppendLies
import Derived.Deep.RegionLaw
import Derived.Deep.RegionHeld3
import Derived.Test.YthiliodmbipikaaGreatRecX
import Derived.Maps.Own
import Derived.Maps.OwnOps
import Derived.Maps.Views
/-
  Several texts in one: SegA, SegB, SegC, SegD, SegE, SegF, SegG, SegH.
-/
set_option linter.unusedVariables false
set_option linter.unusedSimpArgs false
namespace Go.Proofs.YthiliodmbipikaaGreat
open Go.RowKit
attribute [local go_sem] ByteArray.extract_mk ByteArray.mk_append_mk

theorem fndInfo : (Tryz.prog.info? 95).map (fun i => (i.zero, i.size, i.bytes)) = some (some (.agg #[.int .i64 0, .bool false, .string (S []), .bool false, .string (S [])]), 5, 56) := by kernel_rfl
theorem intInfo : (Tryz.prog.info? 3).map (fun i => (i.zero, i.size, i.bytes)) = some (some (.int .i64 0), 1, 8) := by kernel_rfl
theorem own_form {w : World} {B n size : Nat} {e : TypeId} {v : Value} {xs : List Value} (h : w.ownsRow B e size v n xs) : ∃ a cap, v = .slice a n cap := by
  rcases h.2 with ⟨rfl, rfl⟩ | ⟨g, cap, cur, rfl, _⟩
  · exact ⟨_, _, rfl⟩
  · exact ⟨_, _, rfl⟩

/-- Two rows of different types lie apart. -/
theorem own_apart {w : World} {B C n m s t : Nat} {e T : TypeId} {v u : Value} {xs ys : List Value} (h : w.ownsRow B e s v n xs) (k : w.ownsRow C T t u m ys) (hT : e ≠ T) : v.ownBlock = none ∨ v.ownBlock ≠ u.ownBlock := by
  rcases h.2 with ⟨rfl, _⟩ | ⟨g, cap, cur, rfl, _, hg, _⟩
  · exact .inl rfl
  · right
    rcases k.2 with ⟨rfl, _⟩ | ⟨g', cap', cur', rfl, _, hg', _⟩
    · simp [Value.ownBlock]
    · intro e1
      simp only [Value.ownBlock, Option.some.injEq] at e1
      subst e1
      rw [hg] at hg'
      simp only [Option.some.injEq, Obj.cells.injEq] at hg'
      exact hT hg'.2.1
section
end
theorem news_int {W : World} (x : Int) {s : Nat} (hs : W.heap.size = s) : ∀ j u, [Value.int .i64 x][j]? = some u → (W.alloc (.cells #[.int .i64 x] 3)).cell? ((⟨s, 0, none⟩ : Addr).add j) = some u := by
  subst hs
  exact World.news_of_block (cs := #[.int .i64 x]) (t := 3) (fr := (0, 0)) (heap_alloc_new W _)
theorem news_fnd {W : World} (f : Fnd) {s : Nat} (hs : W.heap.size = s) : ∀ j u, f.cells[j]? = some u → (W.alloc (.cells f.cells.toArray 95)).cell? ((⟨s, 0, none⟩ : Addr).add j) = some u := by
  subst hs
  exact World.news_of_block (cs := f.cells.toArray) (t := 95) (fr := (0, 0)) (heap_alloc_new W _)

end Go.Proofs.YthiliodmbipikaaGreat

set_option linter.unusedVariables false
set_option linter.unusedSimpArgs false
namespace Go.Proofs.YthiliodmbipikaaGreat
open Go.RowKit
end Go.Proofs.YthiliodmbipikaaGreat

set_option linter.unusedVariables false
set_option linter.unusedSimpArgs false
namespace Go.Proofs.YthiliodmbipikaaGreat
open Go.RowKit
attribute [local go_sem] ByteArray.extract_mk ByteArray.mk_append_mk

/-- Records with offsets one behind the other. -/
def fnds : Int → List Rec → List Fnd
  | _, [] => []
  | n, r :: l => ⟨n, r⟩ :: fnds (n + 1) l
theorem fnds_len : ∀ (l : List Rec) (n : Int), (fnds n l).length = l.length
  | [], _ => rfl
  | r :: l, n => by simp [fnds, fnds_len l]
theorem fnds_snoc : ∀ (l : List Rec) (n : Int) (r : Rec), fnds n (l ++ [r]) = fnds n l ++ [⟨n + l.length, r⟩]
  | [], n, r => by simp [fnds]
  | s :: l, n, r => by
    simp only [List.cons_append, fnds, fnds_snoc l, List.length_cons]
    congr 4
    omega
theorem fnds_take (l : List Rec) (n : Int) {k : Nat} (hk : k < l.length) : fnds n (l.take (k + 1)) = fnds n (l.take k) ++ [⟨n + k, l[k]⟩] := by
  rw [List.take_succ_eq_append_getElem hk, fnds_snoc, List.length_take, Nat.min_eq_left (by omega)]

/-- What an append comes to. -/
def aerr (l : List Fnd) (next : Int) (rs : List Rec) : Nat := if rchecks rs ≠ 0 then rchecks rs else if 64 < l.length + rs.length ∨ 1099511627776 < next + rs.length then 50 else 0

end Go.Proofs.YthiliodmbipikaaGreat

set_option linter.unusedVariables false
set_option linter.unusedSimpArgs false
namespace Go.Proofs.YthiliodmbipikaaGreat
open Go.RowKit
attribute [local go_sem] ByteArray.extract_mk ByteArray.mk_append_mk

/-- Records with offsets, handed back in a row of the caller's own. -/
def FndsCall (f : FuncId) (args : Array Value) (w : World) (l : List Fnd) : Prop :=
  Calls Tryz.prog f args w fun x w' => ∃ v, x = .returned v ∧ w'.ownsRow w.heap.size 95 5 v l.length (l.flatMap Fnd.cells) ∧ Below w.heap.size w w'
theorem FndsCall.intro {f : FuncId} {args : Array Value} {w : World} {l : List Fnd}
    (h : ∀ R : Ending → World → Prop, Hid (∀ v w', w'.ownsRow w.heap.size 95 5 v l.length (l.flatMap Fnd.cells) → Below w.heap.size w w' → R (.returned v) w') → Calls Tryz.prog f args w R) : FndsCall f args w l :=
  h _ fun v w' h1 h2 => ⟨v, rfl, h1, h2⟩
theorem FndsCall.use {f : FuncId} {args : Array Value} {w : World} {l : List Fnd} {R : Ending → World → Prop} (h : FndsCall f args w l)
    (k : ∀ v w', w'.ownsRow w.heap.size 95 5 v l.length (l.flatMap Fnd.cells) → Below w.heap.size w w' → R (.returned v) w') : Calls Tryz.prog f args w R :=
  h.mono fun x w' ⟨v, he, h1, h2⟩ => by subst he; exact k v w' h1 h2
/-- Numbers, handed back in a row of the caller's own. -/
def NumsCall (f : FuncId) (args : Array Value) (w : World) (l : List Int) : Prop :=
  Calls Tryz.prog f args w fun x w' => ∃ v, x = .returned v ∧ w'.ownsRow w.heap.size 3 1 v l.length (l.map (Value.int .i64)) ∧ Below w.heap.size w w'
theorem NumsCall.intro {f : FuncId} {args : Array Value} {w : World} {l : List Int}
    (h : ∀ R : Ending → World → Prop, Hid (∀ v w', w'.ownsRow w.heap.size 3 1 v l.length (l.map (Value.int .i64)) → Below w.heap.size w w' → R (.returned v) w') → Calls Tryz.prog f args w R) : NumsCall f args w l :=
  h _ fun v w' h1 h2 => ⟨v, rfl, h1, h2⟩
theorem NumsCall.use {f : FuncId} {args : Array Value} {w : World} {l : List Int} {R : Ending → World → Prop} (h : NumsCall f args w l)
    (k : ∀ v w', w'.ownsRow w.heap.size 3 1 v l.length (l.map (Value.int .i64)) → Below w.heap.size w w' → R (.returned v) w') : Calls Tryz.prog f args w R :=
  h.mono fun x w' ⟨v, he, h1, h2⟩ => by subst he; exact k v w' h1 h2
theorem nnews_at {w : World} {b o : Nat} {l : List Int} (h : ∀ i, (h : i < l.length) → w.cell? ⟨b, o + i, none⟩ = some (.int .i64 l[i])) : ∀ j u, (l.map (Value.int .i64))[j]? = some u → w.cell? ((⟨b, o, none⟩ : Addr).add j) = some u := fun j u hj => by
  rw [addr_add]
  have hlt : j < l.length := by have := (List.getElem?_eq_some_iff.1 hj).1; simpa using this
  rw [h j hlt]
  simpa [hlt] using hj

theorem drewN_add (w : World) (a b : Nat) : w.drewN (a + b) = (w.drewN a).drewN b := by simp [World.drewN, Nat.add_assoc]
end Go.Proofs.YthiliodmbipikaaGreat

set_option linter.unusedVariables false
set_option linter.unusedSimpArgs false
namespace Go.Proofs.YthiliodmbipikaaGreat
open Go.RowKit
attribute [local go_sem] ByteArray.extract_mk ByteArray.mk_append_mk

theorem snoc_ind {P : List Fnd → Prop} (h0 : P []) (h1 : ∀ l f, P l → P (l ++ [f])) : ∀ l, P l := by
  have h : ∀ m : List Fnd, P m.reverse := by
    intro m
    induction m with
    | nil => exact h0
    | cons f m ih => rw [List.reverse_cons]; exact h1 _ _ ih
  intro l
  simpa using h l.reverse
theorem idx_shape : ∀ (l : List Fnd), (idx l).length = (l.length + 7) / 8 ∧ ∀ k, (h : k < (idx l).length) → ∀ h' : 8 * k < l.length, (idx l)[k] = l[8 * k].off := by
  refine snoc_ind ⟨rfl, fun k h => by simp [idx, idxF] at h⟩ ?_
  · intro l f ih
    obtain ⟨i1, i2⟩ := ih
    rw [idx_snoc]
    by_cases h8 : l.length % 8 = 0
    · rw [if_pos h8]
      refine ⟨by simp; omega, fun k h h' => ?_⟩
      by_cases hk : k < (idx l).length
      · rw [List.getElem_append_left hk, List.getElem_append_left (by omega)]
        exact i2 k hk (by omega)
      · have hk2 : k = (idx l).length := by simp at h; omega
        subst hk2
        rw [List.getElem_append_right (by omega), List.getElem_append_right (by omega)]
        simp
    · rw [if_neg h8, List.append_nil]
      refine ⟨by simp; omega, fun k h h' => ?_⟩
      rw [List.getElem_append_left (by omega)]
      exact i2 k h (by omega)

/-- The offsets rise. -/
def Rising (l : List Fnd) : Prop := ∀ i j, (hi : i < j) → (hj : j < l.length) → (l[i]'(by omega)).off < l[j].off
/-- How many records stand ahead of an offset. -/
def place (fr : Int) (l : List Fnd) : Nat := (l.takeWhile fun f => decide (f.off < fr)).length
theorem place_eq {fr : Int} : ∀ {l : List Fnd} {i : Nat}, i ≤ l.length → (∀ j, (h : j < i) → ∀ h' : j < l.length, l[j].off < fr) → (∀ h : i < l.length, ¬ l[i].off < fr) → place fr l = i
  | [], i, hi, _, _ => by simp at hi; subst hi; rfl
  | f :: l, 0, _, _, h2 => by
    have := h2 (by simp)
    simp only [List.getElem_cons_zero] at this
    simp [place, List.takeWhile_cons, this]
  | f :: l, i + 1, hi, h1, h2 => by
    have h0 := h1 0 (by omega) (by simp)
    simp only [List.getElem_cons_zero] at h0
    have ih := place_eq (fr := fr) (l := l) (i := i) (by simpa using hi) (fun j h h' => by have := h1 (j + 1) (by omega) (by simpa using h'); simpa using this) (fun h => by have := h2 (by simpa using h); simpa using this)
    unfold place at ih ⊢
    rw [List.takeWhile_cons, if_pos (by simpa using h0), List.length_cons, ih]
theorem place_le (fr : Int) (l : List Fnd) : place fr l ≤ l.length := by unfold place; exact (List.takeWhile_sublist _).length_le

theorem own_base {w : World} {B C n s : Nat} {e : TypeId} {v : Value} {xs : List Value} (h : w.ownsRow B e s v n xs) (hC : C ≤ B) : w.ownsRow C e s v n xs := by
  refine ⟨h.1, ?_⟩
  rcases h.2 with h1 | ⟨g, cap, cur, h1, h2, rest⟩
  · exact .inl h1
  · exact .inr ⟨g, cap, cur, h1, Nat.le_trans hC h2, rest⟩
/-- The records from an offset on, so many at most. -/
def reads (fr n : Int) (l : List Fnd) : List Fnd := (l.drop (place fr l)).take (max 0 (min n ((l.drop (place fr l)).length : Int))).toNat

theorem below_drew {w W : World} (h : Below w.drew.heap.size w.drew W) : Below w.heap.size w W := below_any (Nat.le_refl _) (Below.refl _ w).drew h
theorem own_cap5 {w : World} {B n m p s : Nat} {a : Option Addr} {xs : List Value} {e : TypeId} (h : w.ownsRow B e s (.slice a m p) n xs) : n ≤ p := by
  rcases h.2 with ⟨h1, h2⟩ | ⟨g, cap, cur, h1, h2, h3, h4, _⟩
  · omega
  · simp only [Value.slice.injEq] at h1
    omega
end Go.Proofs.YthiliodmbipikaaGreat

set_option linter.unusedVariables false
set_option linter.unusedSimpArgs false
namespace Go.Proofs.YthiliodmbipikaaGreat
open Go.RowKit
/-- How many bytes a record is. -/
def Fnd.size (f : Fnd) : Nat := (rput f.r.hk f.r.key f.r.tb f.r.val).1.length
theorem Fnd.size_le (f : Fnd) : f.size ≤ 2021 := by
  unfold Fnd.size rput
  split
  · exact rec_ok_text (r := f.r) (by assumption)
  · simp
def fbytes : List Fnd → Nat
  | [] => 0
  | f :: l => f.size + fbytes l
theorem fbytes_snoc : ∀ (l : List Fnd) (f : Fnd), fbytes (l ++ [f]) = fbytes l + f.size
  | [], f => by simp [fbytes]
  | g :: l, f => by simp only [List.cons_append, fbytes, fbytes_snoc l f]; omega
theorem fbytes_take (l : List Fnd) {k : Nat} (hk : k < l.length) : fbytes (l.take (k + 1)) = fbytes (l.take k) + l[k].size := by
  rw [List.take_succ_eq_append_getElem hk, fbytes_snoc]
theorem fbytes_le : ∀ l : List Fnd, fbytes l ≤ 2021 * l.length
  | [] => by simp [fbytes]
  | f :: l => by have := fbytes_le l; have := f.size_le; simp only [fbytes, List.length_cons]; omega

end Go.Proofs.YthiliodmbipikaaGreat

set_option linter.unusedVariables false
set_option linter.unusedSimpArgs false
namespace Go.Proofs.YthiliodmbipikaaGreat
open Go.RowKit Go.Maps
attribute [local go_sem] ByteArray.extract_mk ByteArray.mk_append_mk

/-- The map that has these keys. -/
def mapD (l : List Int) : DataW Unit := l.foldl (fun D n => D.put (.int .i64 n) (.lit (.bool true))) (.map [])
theorem mapD_snoc (l : List Int) (n : Int) : mapD (l ++ [n]) = (mapD l).put (.int .i64 n) (.lit (.bool true)) := by simp [mapD, List.foldl_append]
theorem snoc_indI {P : List Int → Prop} (h0 : P []) (h1 : ∀ l f, P l → P (l ++ [f])) : ∀ l, P l := by
  have h : ∀ m : List Int, P m.reverse := by
    intro m
    induction m with
    | nil => exact h0
    | cons f m ih => rw [List.reverse_cons]; exact h1 _ _ ih
  intro l
  simpa using h l.reverse
theorem mapD_isMap : ∀ l, IsMap (mapD l) := snoc_indI isMap_empty fun l n ih => by rw [mapD_snoc]; exact ih.put _ _
theorem mapD_at (n : Int) : ∀ l, (mapD l).atKey (.int .i64 n) (.lit (.bool false)) = .lit (.bool (decide (n ∈ l))) := snoc_indI (by simp [mapD]; rfl) fun l m ih => by
  rw [mapD_snoc]
  by_cases h : n = m
  · subst h
    rw [atKey_put_same (mapD_isMap l) (by trivial)]
    simp
  · rw [atKey_put_other (by simpa using h), ih]
    simp [h]
theorem keyI : Keyed Tryz.prog 3 := int_keyed Tryz.underlying3
theorem zeroB (w : World) : (zeroValue 4).run Tryz.prog w = .ok (.bool false) w := by kernel_rfl
/-- A block that is the map of these keys. -/
def KMap (w : World) (b : Nat) (l : List Int) : Prop := w.ownsMap Tryz.prog 3 (plainElem Tryz.prog 4) b l.length (mapD l)
theorem KMap.keptBy {bs : List Nat} {w W : World} {b : Nat} {l : List Int} (h : KMap w b l) (k : Kept bs w W) (hn : b ∉ bs) : KMap W b l := by
  have hlt := World.ownsMap.lt h
  obtain ⟨es, clock, hb, rest⟩ := h
  exact ⟨es, clock, (k.block b hlt hn).trans hb, rest⟩
/-- What is kept. -/
def keeps (ks : List Int) (l : List Fnd) : List Fnd := l.filter fun f => decide (f.off ∈ ks)
theorem keeps_take (ks : List Int) (l : List Fnd) {k : Nat} (hk : k < l.length) : keeps ks (l.take (k + 1)) = keeps ks (l.take k) ++ if l[k].off ∈ ks then [l[k]] else [] := by
  unfold keeps
  rw [List.take_succ_eq_append_getElem hk, List.filter_append]
  congr 1
  by_cases h : l[k].off ∈ ks <;> simp [h]
theorem keeps_len (ks : List Int) (l : List Fnd) : (keeps ks l).length ≤ l.length := List.length_filter_le ..

end Go.Proofs.YthiliodmbipikaaGreat

set_option linter.unusedVariables false
set_option linter.unusedSimpArgs false
namespace Go.Proofs.YthiliodmbipikaaGreat
open Go.RowKit Go.Maps
attribute [local go_sem] ByteArray.extract_mk ByteArray.mk_append_mk

/-- Do the offsets rise, from behind last on, up to next? -/
def inOrder (last next : Int) : List Fnd → Bool
  | [] => true
  | f :: l => decide (last < f.off) && decide (f.off < next) && inOrder f.off next l
/-- What a loading comes to. -/
def lerr (base next : Int) (l : List Fnd) : Nat :=
  if (!numB base || !numB next || decide (next < base) || decide (64 < l.length)) = true then 1 else if inOrder (base - 1) next l = false then 1 else rchecks (l.map Fnd.r)
/-- The last offset of those that were put. -/
def lastOf (base : Int) (l : List Fnd) (k : Nat) : Int := if h : 0 < k ∧ k - 1 < l.length then (l[k - 1]'h.2).off else base - 1
theorem lastOf_step (base : Int) (l : List Fnd) {k : Nat} (hk : k < l.length) : lastOf base l (k + 1) = l[k].off := by
  unfold lastOf
  rw [dif_pos ⟨by omega, by simpa using hk⟩]
  simp
theorem order_step {base next : Int} {l : List Fnd} {k : Nat} (hk : k < l.length) : inOrder (lastOf base l k) next (l.drop k) = (decide (lastOf base l k < l[k].off) && decide (l[k].off < next) && inOrder (lastOf base l (k + 1)) next (l.drop (k + 1))) := by
  rw [lastOf_step base l hk, List.drop_eq_getElem_cons hk]
  rfl

end Go.Proofs.YthiliodmbipikaaGreat
