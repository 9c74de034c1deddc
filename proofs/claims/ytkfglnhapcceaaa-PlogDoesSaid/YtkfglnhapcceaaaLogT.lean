import Derived.Test.YtkfglnhapcceaaaLogS
import Derived.Test.YtkfglnhapcceaaaLogE
import Derived.Test.YtkfglnhapcceaaaSegW
/-
  Layer 6: the contracts, told of what a log says.
-/
set_option linter.unusedVariables false
set_option linter.unusedSimpArgs false
namespace Go.Proofs.Ytkfglnhapcceaaa
open Go.RowKit

/-- A log that may be, in memory: its blocks are bs. -/
def LogD (w : World) (g : Nat) (bs : List Nat) (room : Int) (D : List Sd) : Prop := Good room D ∧ ∃ ss, LogAt w g bs room ss ∧ ss.map Sg.d = D
section
variable {w W : World} {g : Nat} {bs cs : List Nat} {room : Int} {D : List Sd}
theorem LogD.good (h : LogD w g bs room D) : Good room D := h.1
theorem LogD.lt (h : LogD w g bs room D) : ∀ x ∈ bs, x < w.heap.size := by
  obtain ⟨_, ss, h, _⟩ := h
  exact h.lt
theorem LogD.mem (h : LogD w g bs room D) : g ∈ bs := by
  obtain ⟨_, ss, h, _⟩ := h
  exact h.mem
theorem LogD.kept (h : LogD w g bs room D) (k : Kept cs w W) (hd : ∀ x ∈ bs, x ∉ cs) : LogD W g bs room D := by
  obtain ⟨h0, ss, h, e⟩ := h
  exact ⟨h0, ss, h.kept k hd, e⟩
theorem LogD.below (h : LogD w g bs room D) (hb : Below w.heap.size w W) : LogD W g bs room D := h.kept (Kept.ofBelow hb []) (by simp)
theorem LogD.drew (h : LogD w g bs room D) : LogD w.drew g bs room D := h
end
/-- All records from an offset on, so many at most. -/
def dread (fr n : Int) (D : List Sd) : List Fnd := if rerr fr D = 0 then readsR fr n (dall D) else []
theorem lstep_all {fr n : Int} {L : List Fnd} {s : Sd} (hr : Rise s.l) (hb : ∀ f ∈ s.l, f.off < s.next) : lstep fr n (readsR fr n L) s = readsR fr n (L ++ s.l) := by
  have hsplit : readsR fr n (L ++ s.l) = readsR fr n L ++ (s.l.filter fun f => decide (fr ≤ f.off)).take (n.toNat - (L.filter fun f => decide (fr ≤ f.off)).length) := by
    unfold readsR
    rw [List.filter_append, List.take_append]
  have hlen : (readsR fr n L).length = min n.toNat (L.filter fun f => decide (fr ≤ f.off)).length := by unfold readsR; rw [List.length_take]
  rw [hsplit]
  by_cases h1 : fr < s.next
  · by_cases h2 : ((readsR fr n L).length : Int) < n
    · rw [lstep_in h1 h2, ← readsR_eq (rise_rising hr)]
      congr 1
      unfold readsR
      congr 1
      unfold readsR at hlen h2
      omega
    · rw [lstep_out (fun h => h2 h.2), show n.toNat - (L.filter fun f => decide (fr ≤ f.off)).length = 0 by omega, List.take_zero, List.append_nil]
  · have h3 : (s.l.filter fun f => decide (fr ≤ f.off)) = [] := List.filter_eq_nil_iff.2 fun f hf => by have := hb f hf; simp; omega
    rw [lstep_out (fun h => h1 h.1), h3, List.take_nil, List.append_nil]
theorem lread_fold {fr n : Int} : ∀ (D : List Sd) (L : List Fnd), (∀ s ∈ D, Rise s.l ∧ ∀ f ∈ s.l, f.off < s.next) → D.foldl (lstep fr n) (readsR fr n L) = readsR fr n (L ++ dall D)
  | [], L, _ => by simp [dall]
  | s :: D, L, h => by
    have h1 := h s (by simp)
    rw [List.foldl_cons, lstep_all h1.1 h1.2, lread_fold D (L ++ s.l) (fun t ht => h t (by simp [ht]))]
    simp [dall]
theorem lread_all {fr n : Int} {room : Int} {D : List Sd} (h : Good room D) : lread fr n D = readsR fr n (dall D) := by
  have := lread_fold (fr := fr) (n := n) D [] fun s hs => ⟨(h.mem hs).2.2.2.2.1, fun f hf => ((h.mem hs).2.2.2.2.2 f hf).2.1⟩
  simpa [lread, readsR] using this

section
variable {R : Ending → World → Prop} {w : World} {g : Nat} {bs : List Nat} {room : Int} {D : List Sd}
theorem new6_use (w : World) (room : Int) (h : 1 ≤ room ∧ room ≤ 64) (k : ∀ g cs w', LogD w' g cs room [⟨0, 0, []⟩] → Below w.heap.size w w' → (∀ x ∈ cs, w.heap.size ≤ x) → R (.returned (.tuple #[.pointer (some ⟨g, 0, none⟩), .int .i64 0])) w') :
    Calls Try.prog 17 #[.int .i64 room] w R :=
  (new6 room w h).use fun g cs ss w' h1 h2 h3 h4 => k g cs w' ⟨⟨h.1, h.2, by simp, gscan_cons0.2 ⟨rfl, by show (0 : Int) ≤ room; omega, .inl rfl, rfl⟩⟩, ss, h1, h2⟩ h3 h4
theorem span6D (h : LogD w g bs room D) (hl : D.length ≤ 900) : RetB Try.prog 18 #[.pointer (some ⟨g, 0, none⟩)] w (.tuple #[.int .i64 (dstart D), .int .i64 (dend D)]) := by
  obtain ⟨h0, ss, h1, rfl⟩ := h
  exact span6 g bs room ss w h1 (fun e => h0.2.2.1 (by rw [e]; rfl)) (by rw [List.length_map] at hl; omega)
theorem bytes6D (h : LogD w g bs room D) (hl : D.length ≤ 900) : RetB Try.prog 36 #[.pointer (some ⟨g, 0, none⟩)] w (.int .i64 (fbytes (dall D) : Nat)) := by
  obtain ⟨h0, ss, h1, rfl⟩ := h
  refine bytes6 g bs room ss w h1 (fun e => h0.2.2.1 (by rw [e]; rfl)) (by rw [List.length_map] at hl; omega) fun s hs => ?_
  have hm := List.mem_map_of_mem (f := Sg.d) hs
  exact ⟨by have := (h0.mem hm).2.2.2.1; omega, h0.bd hm⟩
theorem append6_use {v : Value} {rs : List Rec} (h : LogD w g bs room D) (hl : D.length ≤ 900) (hv : RecsIn w v rs) (ha : Away bs v) (hb : RecsBd rs)
    (k : ∀ cs w', LogD w' g cs room (dapp room D rs) → Kept bs w w' → (∀ x ∈ cs, x ∈ bs ∨ w.heap.size ≤ x) → R (.returned (.tuple #[.int .i64 (if aerr6 room D rs = 0 then dend D else 0), .int .i64 (aerr6 room D rs : Nat)])) w') :
    Calls Try.prog 14 #[.pointer (some ⟨g, 0, none⟩), v] w R := by
  obtain ⟨h0, ss, h1, rfl⟩ := h
  have hne : ss ≠ [] := fun e => h0.2.2.1 (by rw [e]; rfl)
  obtain ⟨A, s, rfl⟩ : ∃ A s, ss = A ++ [s] := ⟨ss.dropLast, ss.getLast hne, (List.dropLast_concat_getLast hne).symm⟩
  have hs := h0.mem (s := s.d) (by simp)
  have hde : dend ((A ++ [s]).map Sg.d) = s.d.next := by rw [List.map_append]; exact dend_snoc _ _
  have hgo : Good room (dapp room ((A ++ [s]).map Sg.d) rs) := by
    by_cases he : aerr6 room ((A ++ [s]).map Sg.d) rs = 0
    · exact h0.app he
    · rw [dapp_no he]; exact h0
  refine (append6 g bs room A s v rs w h1 hv ha hb (by simp at hl; omega) ⟨h0.1, h0.2.1⟩ (by omega) hs.2.2.2.1).use fun cs ss' w' h2 h3 h4 h5 => ?_
  rw [← hde]
  exact k cs w' ⟨hgo, ss', h2, h3⟩ h4 h5
theorem read6_use (fr n : Int) (h : LogD w g bs room D) (hl : D.length ≤ 900) (hn : n ≤ 9223372036854775807)
    (k : ∀ v w', w'.ownsRow w.heap.size 31 5 v (dread fr n D).length ((dread fr n D).flatMap Fnd.cells) → Below w.heap.size w w' → R (.returned (.tuple #[v, .int .i64 (rerr fr D : Nat)])) w') :
    Calls Try.prog 19 #[.pointer (some ⟨g, 0, none⟩), .int .i64 fr, .int .i64 n] w R := by
  obtain ⟨h0, ss, h1, rfl⟩ := h
  have hne : ss ≠ [] := fun e => h0.2.2.1 (by rw [e]; rfl)
  by_cases he : rerr fr (ss.map Sg.d) = 0
  · have hd : dread fr n (ss.map Sg.d) = lread fr n (ss.map Sg.d) := by unfold dread; rw [if_pos he, lread_all h0]
    rw [hd, he] at k
    exact (read6_ok g bs room ss fr n w h1 hne (by simp at hl; omega) (fun s hs => ⟨h0.rising (List.mem_map_of_mem hs), (h0.mem (List.mem_map_of_mem (f := Sg.d) hs)).2.2.2.1⟩) hn he).use k
  · have hd : dread fr n (ss.map Sg.d) = [] := by unfold dread; rw [if_neg he]
    rw [hd] at k
    exact (read6_no g bs room ss fr n w h1 hne (by simp at hl; omega) he).use k
theorem retain6_use (b : Int) (h : LogD w g bs room D) (hl : D.length ≤ 900)
    (k : ∀ cs w', LogD w' g cs room (D.drop (nret b D)) → Kept bs w w' → (∀ x ∈ cs, x ∈ bs ∨ w.heap.size ≤ x) → R (.returned (.int .i64 (nret b D : Nat))) w') :
    Calls Try.prog 20 #[.pointer (some ⟨g, 0, none⟩), .int .i64 b] w R := by
  obtain ⟨h0, ss, h1, rfl⟩ := h
  have hne : ss ≠ [] := fun e => h0.2.2.1 (by rw [e]; rfl)
  exact (retain6 g bs room ss b w h1 hne (by simp at hl; omega)).use fun cs ss' w' h2 h3 h4 h5 => k cs w' ⟨h0.retain b, ss', h2, h3⟩ h4 h5
/-- How many records a compaction lets go. -/
def ncmp (D : List Sd) : Int := (cdone D 0).2.2
theorem compact6_use (h : LogD w g bs room D) (hl : D.length ≤ 900)
    (k : ∀ cs w', LogD w' g cs room (dcmp D) → Kept bs w w' → (∀ x ∈ cs, x ∈ bs ∨ w.heap.size ≤ x) → R (.returned (.int .i64 (ncmp D))) w') :
    Calls Try.prog 21 #[.pointer (some ⟨g, 0, none⟩)] w R := by
  obtain ⟨h0, ss, h1, rfl⟩ := h
  have hne : ss ≠ [] := fun e => h0.2.2.1 (by rw [e]; rfl)
  exact (compact6 g bs room ss w h1 hne (by simp at hl; omega) fun s hs => ⟨by have := (h0.mem (List.mem_map_of_mem (f := Sg.d) hs)).2.2.2.1; omega, fun f hf => ⟨h0.bd (List.mem_map_of_mem (f := Sg.d) hs) f hf, h0.wf (List.mem_map_of_mem (f := Sg.d) hs) f hf⟩⟩).use fun cs ss' w' h2 h3 h4 h5 => k cs w' ⟨h0.cmp, ss', h2, h3⟩ h4 h5
theorem segs6D (h : LogD w g bs room D) (hl : D.length ≤ 900) : SegsCall 22 #[.pointer (some ⟨g, 0, none⟩)] w D := by
  obtain ⟨h0, ss, h1, rfl⟩ := h
  exact segs6 g bs room ss w h1 (fun e => h0.2.2.1 (by rw [e]; rfl)) (by simp at hl; omega) fun s hs => by have := (h0.mem (List.mem_map_of_mem (f := Sg.d) hs)).2.2.2.1; omega
theorem load6_ok (room : Int) (v : Value) (bs : List Nat) (D : List Sd) (w : World) (hv : SegsIn w v bs D) (hDl : D.length ≤ 900) (hg : Good room D)
    (k : ∀ g cs w', LogD w' g cs room D → Below w.heap.size w w' → (∀ x ∈ cs, w.heap.size ≤ x) → R (.returned (.tuple #[.pointer (some ⟨g, 0, none⟩), .int .i64 0])) w') : Calls Try.prog 11 #[.int .i64 room, v] w R :=
  (load6 room v bs D w hv (by omega) fun s hs => ⟨by have := (hg.mem hs).2.2.2.1; omega, hg.bd hs⟩).mono fun x w' h => by
    rcases h with ⟨_, g, cs, ss, rfl, h1, h2, h3, h4⟩ | ⟨h, _⟩
    · exact k g cs w' ⟨hg, ss, h1, h2⟩ h3 h4
    · exact absurd (good_gerr.2 hg) h
theorem load6_no (room : Int) (v : Value) (bs : List Nat) (D : List Sd) (w : World) (hv : SegsIn w v bs D) (hDl : D.length ≤ 900) (hbd : ∀ s ∈ D, s.l.length ≤ 9223372036854775807 ∧ ∀ f ∈ s.l, RecBd f.r) (hg : gerr room D ≠ 0) :
    RetB Try.prog 11 #[.int .i64 room, v] w (.tuple #[.pointer none, .int .i64 (gerr room D : Nat)]) :=
  (load6 room v bs D w hv (by omega) hbd).mono fun x w' h => by
    rcases h with ⟨h, _⟩ | ⟨_, h1, h2⟩
    · exact absurd h hg
    · exact ⟨h1, h2⟩
end
end Go.Proofs.Ytkfglnhapcceaaa
