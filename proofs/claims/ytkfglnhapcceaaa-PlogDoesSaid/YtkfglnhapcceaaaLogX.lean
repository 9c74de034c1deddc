import Derived.Test.YtkfglnhapcceaaaLogW
import Derived.Test.YtkfglnhapcceaaaSegW
/-
  Layer 6, plain: reading in pieces.
-/
set_option linter.unusedVariables false
set_option linter.unusedSimpArgs false
namespace Go.Proofs.Ytkfglnhapcceaaa
open Go.RowKit

theorem keeps_all {D E : List Sd} (h : Cuts D E) : (dall E).Sublist (dall D) := by
  induction D generalizing E with
  | nil => cases E with
    | nil => exact List.Sublist.refl _
    | cons t E => exact h.elim
  | cons s D ih => cases E with
    | nil => exact h.elim
    | cons t E =>
      obtain ⟨⟨_, _, ks, h3⟩, h4⟩ := h
      simp only [dall, List.flatMap_cons]
      exact List.Sublist.append (by rw [h3]; exact keeps_sub ks s.l) (ih h4)
/-- p records stand ahead of an offset. -/
def AtP (L : List Fnd) (at_ : Int) (p : Nat) : Prop := p ≤ L.length ∧ (∀ j, (h : j < p) → (h' : j < L.length) → L[j].off < at_) ∧ ∀ h : p < L.length, at_ ≤ L[p].off
theorem AtP.rest {L : List Fnd} {at_ : Int} {p : Nat} (h : AtP L at_ p) (hr : Rise L) : L.filter (fun f => decide (at_ ≤ f.off)) = L.drop p := by
  have hp : place at_ L = p := place_eq h.1 (fun j h1 h2 => h.2.1 j h1 h2) (fun h1 => by have := h.2.2 h1; omega)
  rw [filter_drop (fun i j hi hj => rise_rising hr i j hi hj), hp]
theorem AtP.reads {L : List Fnd} {at_ n : Int} {p : Nat} (h : AtP L at_ p) (hr : Rise L) : readsR at_ n L = (L.drop p).take n.toNat := by unfold readsR; rw [h.rest hr]
theorem AtP.next {L : List Fnd} {at_ : Int} {p m : Nat} (h : AtP L at_ p) (hr : Rise L) (hm : 0 < m) (hpm : p + m ≤ L.length) : AtP L ((L[p + m - 1]'(by omega)).off + 1) (p + m) := by
  have hrs := rise_rising hr
  refine ⟨hpm, fun j h1 h2 => ?_, fun h1 => ?_⟩
  · by_cases e : j = p + m - 1
    · subst e; omega
    · have := hrs j (p + m - 1) (by omega) (by omega)
      omega
  · have := hrs (p + m - 1) (p + m) (by omega) h1
    omega
theorem AtP.start {L : List Fnd} {s : Int} (h : ∀ f ∈ L, s ≤ f.off) : AtP L s 0 := ⟨by omega, fun j h1 => by omega, fun h1 => h _ (List.getElem_mem h1)⟩
theorem AtP.stop {L : List Fnd} {s e : Int} {p : Nat} (h : AtP L s p) (he : e ≤ s) (hl : ∀ f ∈ L, f.off < e) : p = L.length := by
  by_cases h1 : p < L.length
  · have := h.2.2 h1
    have := hl _ (List.getElem_mem h1)
    omega
  · have := h.1; omega
theorem dread_all {room : Int} {D : List Sd} (hg : Good room D) (hl : (dall D).length ≤ 1048576) : dread (dstart D) 1048576 D = dall D := by
  have hr := dall_rise hg
  have hb := hg.end_bd
  unfold dread
  rw [if_pos (rerr_in (Int.le_refl _) hb.2.1), (AtP.start fun f hf => (hr.2 f hf).1).reads hr.1, List.drop_zero, List.take_of_length_le (by omega)]
theorem dread_at {room : Int} {D : List Sd} {at_ n : Int} {p : Nat} (hg : Good room D) (h : AtP (dall D) at_ p) (h1 : dstart D ≤ at_) (h2 : at_ ≤ dend D) : rerr at_ D = 0 ∧ dread at_ n D = ((dall D).drop p).take n.toNat := by
  have he : rerr at_ D = 0 := rerr_in h1 h2
  refine ⟨he, ?_⟩
  unfold dread
  rw [if_pos he, h.reads (dall_rise hg).1]
end Go.Proofs.Ytkfglnhapcceaaa
