import Derived.Test.YtohplhahghilaaaChkWc
import Derived.Test.YtohplhahghilaaaChkCp
/-
  Layer 7, plain: two gatherers side by side.
-/
set_option linter.unusedVariables false
set_option linter.unusedSimpArgs false
namespace Go.Proofs.Ytohplhahghilaaa
open Go.RowKit

/-- The document's gatherer's chunks as numbers and texts. -/
def pairs (l : List Chk) : List (Int × List UInt8) := l.map fun c => (c.i, c.b)
/-- What the document's taking comes to. -/
def rtake (d : Nat) (l : List Chk) (c : Chk) : Nat × List Chk :=
  if c.right = false then (70, l)
  else if c.d ≠ d then (71, l)
  else if ∃ x ∈ l, x.n ≠ c.n ∨ (x.i = c.i ∧ x.b ≠ c.b) then (71, l)
  else if ∃ x ∈ l, x.i = c.i then (0, l) else (0, l ++ [c])
theorem pairs_find (l : List Chk) (k : Int) : mfind (pairs l) k = (l.find? (fun c => c.i == k)).map (·.b) := by
  unfold mfind pairs
  rw [List.find?_map]
  cases h : l.find? ((fun p : Int × List UInt8 => p.1 == k) ∘ fun c => (c.i, c.b)) with
  | none =>
    have h2 : l.find? (fun c => c.i == k) = none := h
    rw [h2]; rfl
  | some x =>
    have h2 : l.find? (fun c => c.i == k) = some x := h
    rw [h2]; rfl
theorem pairs_some {l : List Chk} {k : Int} : (mfind (pairs l) k).isSome = true ↔ ∃ x ∈ l, x.i = k := by
  rw [pairs_find, Option.isSome_map, List.find?_isSome]
  simp
theorem pairs_mem {l : List Chk} {k : Int} {b : List UInt8} (h : mfind (pairs l) k = some b) : ∃ x ∈ l, x.i = k ∧ x.b = b := by
  rw [pairs_find] at h
  cases hf : l.find? (fun c => c.i == k) with
  | none => rw [hf] at h; simp at h
  | some x =>
    rw [hf] at h
    simp at h
    exact ⟨x, List.mem_of_find?_eq_some hf, by simpa using List.find?_some hf, h⟩
/-- The two hold the same. -/
structure JI (n : Int) (L : List (Int × List UInt8)) (l : List Chk) : Prop where
  eq : L = pairs l
  ns : ∀ c ∈ l, c.n = n ∧ c.right = true
  one : (l.map Chk.i).Nodup
theorem JI.nil (n : Int) : JI n [] [] := ⟨rfl, by simp, by simp⟩
section
variable {n : Int} {L : List (Int × List UInt8)} {l : List Chk}
theorem JI.uniq (h : JI n L l) {x y : Chk} (hx : x ∈ l) (hy : y ∈ l) (e : x.i = y.i) : x = y := by
  have h1 := h.one
  clear h
  induction l with
  | nil => simp at hx
  | cons a l ih =>
    simp only [List.map_cons, List.nodup_cons] at h1
    obtain ⟨h2, h3⟩ := h1
    rcases List.mem_cons.1 hx with rfl | hx'
    · rcases List.mem_cons.1 hy with rfl | hy'
      · rfl
      · exact absurd (e ▸ List.mem_map_of_mem hy') h2
    · rcases List.mem_cons.1 hy with rfl | hy'
      · exact absurd (e ▸ List.mem_map_of_mem hx') h2
      · exact ih hx' hy' h3
theorem JI.find (h : JI n L l) {x : Chk} (hx : x ∈ l) : mfind L x.i = some x.b := by
  rw [h.eq]
  have h1 : (mfind (pairs l) x.i).isSome = true := pairs_some.2 ⟨x, hx, rfl⟩
  obtain ⟨b, hb⟩ := Option.isSome_iff_exists.1 h1
  obtain ⟨y, hy, e1, e2⟩ := pairs_mem hb
  have := h.uniq hx hy e1.symm
  rw [hb, ← e2, this]
theorem JI.take (h : JI n L l) (d : Nat) (c : Chk) : (rtake d l c).1 = (jtake d n L c).1 ∧ JI (jtake d n L c).2.1 (jtake d n L c).2.2 (rtake d l c).2 := by
  unfold rtake jtake
  by_cases hr : c.right = false
  · rw [if_pos hr, if_pos hr]; exact ⟨rfl, h⟩
  rw [if_neg hr, if_neg hr]
  by_cases hd : c.d ≠ d
  · rw [if_pos hd, if_pos (.inl hd)]; exact ⟨rfl, h⟩
  rw [if_neg hd]
  by_cases hx : ∃ x ∈ l, x.n ≠ c.n ∨ (x.i = c.i ∧ x.b ≠ c.b)
  · have : c.d ≠ d ∨ (L ≠ [] ∧ c.n ≠ n) ∨ (∃ x, mfind L c.i = some x ∧ x ≠ c.b) := by
      obtain ⟨x, hx1, hx2⟩ := hx
      rcases hx2 with hx2 | ⟨hx2, hx3⟩
      · refine .inr (.inl ⟨?_, fun e => hx2 ((h.ns x hx1).1.trans e.symm)⟩)
        rw [h.eq]
        intro e
        unfold pairs at e
        rw [List.map_eq_nil_iff] at e
        rw [e] at hx1
        simp at hx1
      · exact .inr (.inr ⟨x.b, by rw [← hx2]; exact h.find hx1, hx3⟩)
    rw [if_pos hx, if_pos this]
    exact ⟨rfl, h⟩
  · have hno : ¬ (c.d ≠ d ∨ (L ≠ [] ∧ c.n ≠ n) ∨ (∃ x, mfind L c.i = some x ∧ x ≠ c.b)) := by
      rintro (h1 | ⟨h1, h2⟩ | ⟨b, h1, h2⟩)
      · exact hd h1
      · cases l with
        | nil => exact h1 h.eq
        | cons y l => exact hx ⟨y, by simp, .inl fun e => h2 (e.symm.trans (h.ns y (by simp)).1)⟩
      · rw [h.eq] at h1
        obtain ⟨y, hy, e1, e2⟩ := pairs_mem h1
        exact hx ⟨y, hy, .inr ⟨e1, e2 ▸ h2⟩⟩
    rw [if_neg hx, if_neg hno]
    have hns : ∀ x ∈ l, x.n = c.n := fun x hm => Decidable.not_not.1 fun e => hx ⟨x, hm, .inl e⟩
    have hr' : c.right = true := by simpa using hr
    by_cases hi : ∃ x ∈ l, x.i = c.i
    · rw [if_pos hi]
      have hs : (mfind L c.i).isSome = true := by rw [h.eq]; exact pairs_some.2 hi
      refine ⟨rfl, ?_, fun x hm => ⟨hns x hm, (h.ns x hm).2⟩, h.one⟩
      unfold mput
      rw [if_pos hs]
      exact h.eq
    · rw [if_neg hi]
      have hs : (mfind L c.i).isSome = false := by
        cases hh : (mfind L c.i).isSome with
        | false => rfl
        | true => rw [h.eq] at hh; exact absurd (pairs_some.1 hh) hi
      refine ⟨rfl, ?_, ?_, ?_⟩
      · unfold mput
        rw [hs, h.eq]
        simp [pairs]
      · intro x hm
        rcases List.mem_append.1 hm with hm | hm
        · exact ⟨hns x hm, (h.ns x hm).2⟩
        · rw [List.mem_singleton.1 hm]; exact ⟨rfl, hr'⟩
      · rw [List.map_append, List.nodup_append]
        refine ⟨h.one, by simp, ?_⟩
        intro a ha b hb e
        simp only [List.map_cons, List.map_nil, List.mem_singleton] at hb
        obtain ⟨x, hx1, hx2⟩ := List.mem_map.1 ha
        exact hi ⟨x, hx1, hx2.trans (e.trans hb)⟩
theorem JI.keys (h : JI n L l) {x : Chk} (hx : x ∈ l) : 0 ≤ x.i ∧ x.i < n ∧ x.b.length ≤ 4096 ∧ 1 ≤ n ∧ n ≤ 4096 := by
  obtain ⟨h1, h2⟩ := h.ns x hx
  obtain ⟨a1, a2, a3, a4, a5, a6⟩ := Chk.right_iff.1 h2
  exact ⟨a3, by omega, a6, by omega, by omega⟩
theorem JI.bod (h : JI n L l) : ∀ p ∈ L, p.2.length ≤ 4096 := by
  rw [h.eq]
  intro p hp
  obtain ⟨x, hx, rfl⟩ := List.mem_map.1 hp
  exact (h.keys hx).2.2.1
theorem JI.len (h : JI n L l) : L.length = l.length := by rw [h.eq]; simp [pairs]
theorem filter_both {α : Type} (p : α → Bool) : ∀ l : List α, (l.filter p).length + (l.filter fun x => !p x).length = l.length
  | [] => rfl
  | a :: l => by
    have := filter_both p l
    cases h : p a <;> simp [List.filter, h] <;> omega
/-- As many are missing as are not there. -/
theorem JI.count (h : JI n L l) (N : Nat) (hN : l = [] ∨ n = N) : (jmiss L N).length + L.length = N := by
  have h1 : ((List.range N).filter fun (i : Nat) => !(mfind L (i : Int)).isNone).length = L.length := by
    rw [h.len]
    have hp : (((List.range N).filter fun (i : Nat) => !(mfind L (i : Int)).isNone).map Int.ofNat).Perm (l.map Chk.i) := by
      rw [List.perm_ext_iff_of_nodup]
      · intro a
        simp only [List.mem_map, List.mem_filter, List.mem_range]
        constructor
        · rintro ⟨i, ⟨hi, hm⟩, rfl⟩
          have hs : (mfind L (i : Int)).isSome = true := by cases hh : mfind L (i : Int) <;> simp_all
          rw [h.eq] at hs
          obtain ⟨x, hx1, hx2⟩ := pairs_some.1 hs
          exact ⟨x, hx1, hx2⟩
        · rintro ⟨x, hx, rfl⟩
          obtain ⟨b1, b2, _⟩ := h.keys hx
          have hn : n = N := hN.resolve_left fun e => by rw [e] at hx; simp at hx
          have e : ((x.i.toNat : Nat) : Int) = x.i := by omega
          refine ⟨x.i.toNat, ⟨by omega, ?_⟩, e⟩
          rw [e, h.find hx]
          rfl
      · exact List.Pairwise.map _ (fun a b hab e => hab (Int.ofNat.inj e)) (List.Pairwise.filter _ List.nodup_range)
      · exact h.one
    have := hp.length_eq
    simpa using this
  have h2 := filter_both (fun i : Nat => (mfind L (i : Int)).isNone) (List.range N)
  have h3 : (jmiss L N).length = ((List.range N).filter fun (i : Nat) => (mfind L (i : Int)).isNone).length := by unfold jmiss; rw [List.length_map]
  rw [List.length_range] at h2
  omega
end
/-- What the whole comes to. -/
def jwhole (d N : Nat) (L : List (Int × List UInt8)) : List UInt8 × Bool × List (Int × List UInt8) :=
  if L = [] ∨ L.length < N then ([], false, L) else if digest (jtext L N) = d then (jtext L N, true, L) else ([], false, [])
theorem JCall.ofB {f : FuncId} {args : Array Value} {w : World} {p m d : Nat} {v : Value} {n : Int} {L : List (Int × List UInt8)} (h : JAt w p m d n L) (c : RetB Try.prog f args w v) : JCall f args w p m d v n L :=
  Calls.mono c fun x w' ⟨h1, h2⟩ => ⟨h1, h.below h2, Kept.ofBelow h2 _⟩
theorem whole7 (p m d N : Nat) (L : List (Int × List UInt8)) (w : World) (h : JAt w p m d N L) (hN : N ≤ 5000) (hb : ∀ p ∈ L, p.2.length ≤ 4096) :
    JCall 27 #[.pointer (some ⟨p, 0, none⟩)] w p m d (.tuple #[.string (S (jwhole d N L).1), .bool (jwhole d N L).2.1]) N (jwhole d N L).2.2 := by
  unfold jwhole
  by_cases h1 : L = [] ∨ L.length < N
  · rw [if_pos h1]
    exact JCall.ofB h (whole7_no p m d N L w h h1)
  · rw [if_neg h1]
    have h2 : L ≠ [] := fun e => h1 (.inl e)
    have h3 : N ≤ L.length := by
      have : ¬ L.length < N := fun e => h1 (.inr e)
      omega
    by_cases hd : digest (jtext L N) = d
    · rw [if_pos hd]
      exact JCall.ofB h (whole7_yes p m d N L w h h2 h3 hN hb hd)
    · rw [if_neg hd]
      exact whole7_clear p m d N L w h h2 h3 hN hb hd
end Go.Proofs.Ytohplhahghilaaa
