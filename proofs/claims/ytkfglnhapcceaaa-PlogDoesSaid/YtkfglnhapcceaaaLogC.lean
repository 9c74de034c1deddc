import Derived.Test.YtkfglnhapcceaaaLogB
/-
  Layer 6: records appended to a log: the contract.
-/
set_option linter.unusedVariables false
set_option linter.unusedSimpArgs false
namespace Go.Proofs.Ytkfglnhapcceaaa
open Go.RowKit
attribute [local go_sem] ByteArray.extract_mk ByteArray.mk_append_mk

/-- What an append comes to. -/
def aerr6 (room : Int) (D : List Sd) (rs : List Rec) : Nat := if rchecks rs ≠ 0 then rchecks rs else if room < rs.length then 2 else if 1099511627776 < dend D + rs.length then 50 else 0
/-- The segments behind it. -/
def dapp (room : Int) (D : List Sd) (rs : List Rec) : List Sd :=
  if aerr6 room D rs ≠ 0 then D else
    match D.getLast? with
    | none => D
    | some s => if rs ≠ [] ∧ room < s.l.length + rs.length then D ++ [⟨s.next, s.next + rs.length, fnds s.next rs⟩] else D.dropLast ++ [⟨s.base, s.next + rs.length, s.l ++ fnds s.next rs⟩]
theorem dapp_no {room : Int} {D : List Sd} {rs : List Rec} (h : aerr6 room D rs ≠ 0) : dapp room D rs = D := by unfold dapp; rw [if_pos h]
theorem dapp_roll {room : Int} {D : List Sd} {s : Sd} {rs : List Rec} (h : aerr6 room (D ++ [s]) rs = 0) (hr : rs ≠ [] ∧ room < s.l.length + rs.length) : dapp room (D ++ [s]) rs = (D ++ [s]) ++ [⟨s.next, s.next + rs.length, fnds s.next rs⟩] := by
  unfold dapp
  rw [if_neg (by simp [h])]
  simp only [List.getLast?_concat]
  rw [if_pos hr]
theorem dapp_in {room : Int} {D : List Sd} {s : Sd} {rs : List Rec} (h : aerr6 room (D ++ [s]) rs = 0) (hr : ¬ (rs ≠ [] ∧ room < s.l.length + rs.length)) : dapp room (D ++ [s]) rs = D ++ [⟨s.base, s.next + rs.length, s.l ++ fnds s.next rs⟩] := by
  unfold dapp
  rw [if_neg (by simp [h])]
  simp only [List.getLast?_concat]
  rw [if_neg hr, List.dropLast_concat]
section
variable {w W : World} {g : Nat} {bs : List Nat} {room : Int} {ss : List Sg} {s : Sg} {lv lv' : Value}
/-- A segment more. -/
theorem LogAt.push (h1 : Blk w g #[.int .i64 room, lv] 70) (h2 : w.ownsRow 0 71 1 lv ss.length (ss.map Sg.ptr)) (h3 : SgsAt w ss) (h4 : ∀ x ∈ sgB ss, x ≠ g ∧ lv.ownBlock ≠ some x)
    (hs : SgAt w s) (hn : ∀ x ∈ s.bs, x ≠ g ∧ lv.ownBlock ≠ some x ∧ x ∉ sgB ss) (o : W.ownsRow 0 71 1 lv' (ss.length + 1) (ss.map Sg.ptr ++ [s.ptr])) (gr : w.grownBy W lv.ownBlock)
    (hb : lv'.ownBlock = lv.ownBlock ∨ lv'.ownBlock = some w.heap.size) :
    ∃ cs, LogAt (W.setCell ⟨g, 1, none⟩ lv') g cs room (ss ++ [s]) ∧ Kept (g :: (lv.ownBlock.toList ++ sgB ss)) w (W.setCell ⟨g, 1, none⟩ lv') ∧ ∀ x ∈ cs, x ∈ g :: (lv.ownBlock.toList ++ sgB ss) ∨ x ∈ s.bs ∨ w.heap.size ≤ x := by
  have k1 : Kept lv.ownBlock.toList w W := Kept.ofGrown gr
  have b1 := h1.grown gr (own_ne h2 h1 (by decide))
  have k2 : Kept [g] W (W.setCell ⟨g, 1, none⟩ lv') := Kept.ofGrown (grown_set (grown_refl W (some g)) 1 lv')
  have k3 : Kept (g :: lv.ownBlock.toList) w (W.setCell ⟨g, 1, none⟩ lv') := (k1.mono (fun x hx => List.mem_cons_of_mem _ hx)).trans k2 (fun x hx => .inl (by simp at hx; simp [hx]))
  have o2 := o.kept (grown_set (grown_refl W (some g)) 1 lv') (.inr (Ne.symm (own_ne o b1 (by decide))))
  have hap : ∀ x ∈ sgB (ss ++ [s]), x ∉ g :: lv.ownBlock.toList := by
    intro x hx hx2
    have hx : x ∈ sgB ss ∨ x ∈ s.bs := by simpa [sgB] using hx
    simp only [List.mem_cons, Option.mem_toList] at hx2
    rcases hx with hx | hx
    · rcases hx2 with e | e
      · exact (h4 x hx).1 e
      · exact (h4 x hx).2 e
    · rcases hx2 with e | e
      · exact (hn x hx).1 e
      · exact (hn x hx).2.1 e
  have hsg : SgsAt w (ss ++ [s]) := by
    refine ⟨fun t ht => ?_, ?_⟩
    · rcases List.mem_append.1 ht with ht | ht
      · exact h3.1 t ht
      · rw [List.mem_singleton.1 ht]; exact hs
    · rw [List.pairwise_append]
      refine ⟨h3.2, by simp, fun t ht u hu x hx hx2 => ?_⟩
      rw [List.mem_singleton.1 hu] at hx2
      exact (hn x hx2).2.2 (List.mem_flatMap.2 ⟨t, ht, hx⟩)
  have hlt := hsg.lt
  refine ⟨g :: (lv'.ownBlock.toList ++ sgB (ss ++ [s])), ⟨lv', b1.set 1 lv', by simpa using o2, hsg.kept k3 hap, ?_, rfl⟩, k3.mono (by intro x hx; simp only [List.mem_cons, List.mem_append] at hx ⊢; rcases hx with h | h; exact .inl h; exact .inr (.inl h)), ?_⟩
  · intro x hx
    have h5 := hap x hx
    simp only [List.mem_cons, Option.mem_toList, not_or] at h5
    refine ⟨h5.1, fun e => ?_⟩
    rcases hb with hb | hb
    · rw [hb] at e; exact h5.2 e
    · rw [hb, Option.some.injEq] at e
      have := hlt x hx
      omega
  · intro x hx
    have hx : x = g ∨ lv'.ownBlock = some x ∨ x ∈ sgB ss ∨ x ∈ s.bs := by simpa [sgB] using hx
    simp only [List.mem_cons, List.mem_append, Option.mem_toList]
    rcases hx with hx | hx | hx | hx
    · exact .inl (.inl hx)
    · rcases hb with hb | hb
      · rw [hb] at hx; exact .inl (.inr (.inl hx))
      · rw [hb, Option.some.injEq] at hx; exact .inr (.inr (by omega))
    · exact .inl (.inr (.inr hx))
    · exact .inr (.inl hx)
end
theorem news_ptr {W : World} (p : Nat) {s : Nat} (hs : W.heap.size = s) : ∀ j u, [Value.pointer (some ⟨p, 0, none⟩)][j]? = some u → (W.alloc (.cells #[.pointer (some ⟨p, 0, none⟩)] 71)).cell? ((⟨s, 0, none⟩ : Addr).add j) = some u := by
  subst hs
  exact World.news_of_block (cs := #[.pointer (some ⟨p, 0, none⟩)]) (t := 71) (fr := (0, 0)) (heap_alloc_new W _)
end Go.Proofs.Ytkfglnhapcceaaa
