/-
  Strings of the walk as lists of bytes: small lemmas on ByteArray literals made of lists. No program in sight.
-/
import Derived.WalkKit
import Derived.WalkLawsBesides
import Derived.WalkSpells
set_option linter.unusedVariables false
set_option linter.unusedSimpArgs false
namespace Go.Proofs.Ytkgpckfaghpgmaa
open Go.RowKit

/-- The bytes of a list as one string. -/
abbrev S (l : List UInt8) : ByteArray := ByteArray.mk l.toArray

theorem S_of (s : ByteArray) : s = S s.data.toList := by cases s; rfl
theorem S_size (l : List UInt8) : (S l).size = l.length := by simp [ByteArray.size]
theorem S_append (a b : List UInt8) : S a ++ S b = S (a ++ b) := ByteArray.mk_append_mk a b
theorem S_extract (l : List UInt8) (a b : Nat) : (S l).extract a b = S ((l.drop a).take (b - a)) := ByteArray.extract_mk l a b
theorem S_toList (l : List UInt8) : (S l).toList = l := ByteArray.toList_mk l
theorem S_getElem (l : List UInt8) (i : Nat) (h : i < (S l).size) : (S l)[i]'h = l[i]'(by simpa [S_size] using h) := rfl
theorem S_beq (a b : List UInt8) : ((S a).toList == (S b).toList) = (a == b) := by rw [S_toList, S_toList]
theorem S_ofNums (xs : List UInt8) : strOfNums (xs.map fun x => (x.toNat : Int)) = S xs := by
  apply ByteArray.ext
  apply Array.ext'
  rw [strOfNums_data]
  simp [List.map_map, Function.comp_def]

/-- A call that returns v and leaves the world as it was. -/
def Ret (P : Program) (f : FuncId) (args : Array Value) (w : World) (v : Value) : Prop := Calls P f args w fun e w' => e = .returned v ∧ w = w'
/-- A call that returns v; of what was there nothing has turned. -/
def RetB (P : Program) (f : FuncId) (args : Array Value) (w : World) (v : Value) : Prop := Calls P f args w fun e w' => e = .returned v ∧ Below w.heap.size w w'

section
variable {P : Program} {f : FuncId} {args : Array Value} {w : World} {v v' : Value} {R : Ending → World → Prop}
theorem Ret.intro (h : ∀ R : Ending → World → Prop, Hid (R (.returned v) w) → Calls P f args w R) : Ret P f args w v := h _ ⟨rfl, rfl⟩
theorem RetB.intro (h : ∀ R : Ending → World → Prop, Hid (∀ w', Below w.heap.size w w' → R (.returned v) w') → Calls P f args w R) : RetB P f args w v := h _ fun _ hb => ⟨rfl, hb⟩
theorem Ret.use (h : Ret P f args w v) (k : R (.returned v) w) : Calls P f args w R := h.mono fun e w' ⟨he, hw⟩ => by subst he; subst hw; exact k
theorem RetB.use (h : RetB P f args w v) (k : ∀ w', Below w.heap.size w w' → R (.returned v) w') : Calls P f args w R := h.mono fun e w' ⟨he, hw⟩ => by subst he; exact k _ hw
theorem Ret.toB (h : Ret P f args w v) : RetB P f args w v := h.mono fun e w' ⟨he, hw⟩ => ⟨he, by subst hw; exact Below.refl _ _⟩
theorem Ret.cast (h : Ret P f args w v) (e : v = v') : Ret P f args w v' := e ▸ h
theorem RetB.cast (h : RetB P f args w v) (e : v = v') : RetB P f args w v' := e ▸ h
theorem fin (h : Hid (R (.returned v) w)) (e : v' = v) : R (.returned v') w := e ▸ h
theorem finB {w' : World} (h : Hid (∀ w', Below w.heap.size w w' → R (.returned v) w')) (hb : Below w.heap.size w w') (e : v' = v) : R (.returned v') w' := e ▸ h _ hb
end
theorem tup2 {a b a' b' : Value} (h1 : a = a') (h2 : b = b') : Value.tuple #[a, b] = Value.tuple #[a', b'] := by rw [h1, h2]
theorem tup3 {a b c a' b' c' : Value} (h1 : a = a') (h2 : b = b') (h3 : c = c') : Value.tuple #[a, b, c] = Value.tuple #[a', b', c'] := by rw [h1, h2, h3]
theorem veq_int {k : IntKind} {a b : Int} (h : a = b) : Value.int k a = Value.int k b := by rw [h]
theorem veq_bool {a b : Bool} (h : a = b) : Value.bool a = Value.bool b := by rw [h]
theorem veq_str {a b : List UInt8} (h : a = b) : Value.string (S a) = Value.string (S b) := by rw [h]

/-- The bytes of a row of one cell as a string. -/
theorem conv1 {P : Program} {src e dst : TypeId} (hs : P.underlying src = some (.slice e)) (he : P.underlying e = some (.int .u8)) (hd : P.underlying dst = some .string) (w : World) (g c : Nat) (x : Int)
    (h : w.cell? ⟨g, 0, none⟩ = some (.int .u8 x)) : (convert src dst (.slice (some ⟨g, 0, none⟩) 1 c)).run P w = .ok (.string (strOfNums [x])) w :=
  run_convert_bytes_arg w src e hs he g 0 1 c [x] rfl (fun i hi => by
    obtain rfl : i = 0 := by omega
    exact h) dst hd
theorem strOfNums_one (x : Nat) : strOfNums [(x : Int)] = S [UInt8.ofNat x] := rfl

/-- A slice of integers, as it lies in memory. -/
def IntsIn (w : World) (k : IntKind) (v : Value) : Prop := (∃ a cap, v = .slice a 0 cap) ∨ ∃ (b off cap : Nat) (zs : List Int), v = .slice (some ⟨b, off, none⟩) zs.length cap ∧ b < w.heap.size ∧ zs.length ≤ maxLen ∧
  (∀ n ∈ zs, (Lit.int k n).wf = true) ∧ ∀ i, (h : i < zs.length) → w.cell? ⟨b, off + i, none⟩ = some (.int k zs[i])

theorem cell_lt {w : World} {b off : Nat} {v : Value} (h : w.cell? ⟨b, off, none⟩ = some v) : b < w.heap.size := by
  unfold World.cell? at h
  rcases Nat.lt_or_ge b w.heap.size with hlt | hge
  · exact hlt
  · simp [Array.getElem?_eq_none hge] at h

end Go.Proofs.Ytkgpckfaghpgmaa
