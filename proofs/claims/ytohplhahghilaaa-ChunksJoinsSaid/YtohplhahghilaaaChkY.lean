import Derived.Test.YtohplhahghilaaaChkX
import Derived.Maps.OwnSet
import Derived.WideKeyEntry
import Derived.Test.YtohplhahghilaaaChkC
import Derived.Test.YtohplhahghilaaaBld
/-
  Several texts in one: ChkI, ChkJ.
-/
set_option linter.unusedVariables false
set_option linter.unusedSimpArgs false
namespace Go.Proofs.Ytohplhahghilaaa
open Go.RowKit Go.Maps Go.ChangeMaps Go.MapKept
attribute [local go_sem] ByteArray.extract_mk ByteArray.mk_append_mk

/-- The text of a number. -/
def mfind (L : List (Int × List UInt8)) (k : Int) : Option (List UInt8) := (L.find? (fun p => p.1 == k)).map (·.2)
theorem mfind_snoc (L : List (Int × List UInt8)) (k j : Int) (b : List UInt8) : mfind (L ++ [(k, b)]) j = if (mfind L j).isSome then mfind L j else if k = j then some b else none := by
  unfold mfind
  rw [List.find?_append]
  cases h : L.find? (fun p => p.1 == j) with
  | some x => simp
  | none =>
    by_cases hk : k = j
    · subst hk; simp
    · simp [hk]
/-- A datum says what the list says. -/
def Rep (D : DataW Unit) (L : List (Int × List UInt8)) : Prop :=
  Tidy D ∧ size D = L.length ∧ ∀ k : Int, has D (.int .i64 k) = (mfind L k).isSome ∧ ∀ b, mfind L k = some b → ∀ z, D.atKey (.int .i64 k) z = .lit (.string b)
theorem Rep.nil : Rep (.map []) [] := ⟨tidy_empty, rfl, fun k => ⟨rfl, fun b h => by simp [mfind] at h⟩⟩
theorem Rep.at {D : DataW Unit} {L : List (Int × List UInt8)} (h : Rep D L) (k : Int) : D.atKey (.int .i64 k) (.lit (.string [])) = .lit (.string ((mfind L k).getD [])) := by
  obtain ⟨h1, h2, h3⟩ := h
  cases hm : mfind L k with
  | none =>
    have := (h3 k).1
    rw [hm] at this
    exact atKey_of_not_has this _
  | some b => exact (h3 k).2 b hm _
/-- What putting comes to, where the number is new or has this very text. -/
def mput (L : List (Int × List UInt8)) (k : Int) (b : List UInt8) : List (Int × List UInt8) := if (mfind L k).isSome then L else L ++ [(k, b)]
theorem Rep.put {D : DataW Unit} {L : List (Int × List UInt8)} (h : Rep D L) {k : Int} {b : List UInt8} (hk : ∀ x, mfind L k = some x → x = b) : Rep (D.put (.int .i64 k) (.lit (.string b))) (mput L k b) := by
  obtain ⟨h1, h2, h3⟩ := h
  refine ⟨h1.put (by trivial) _, ?_, fun j => ?_⟩
  · rw [size_put h1, (h3 k).1]
    unfold mput
    cases hm : mfind L k <;> simp [h2]
  · by_cases hj : j = k
    · subst hj
      refine ⟨?_, fun c hc z => ?_⟩
      · rw [has_put_same h1.isMap (by trivial)]
        unfold mput
        cases hm : mfind L j with
        | none => simp [mfind_snoc, hm]
        | some x => simp [hm]
      · rw [atKey_put_same h1.isMap (by trivial)]
        unfold mput at hc
        cases hm : mfind L j with
        | none => simp [hm, mfind_snoc] at hc; rw [hc]
        | some x =>
          simp [hm] at hc
          subst hc
          rw [hk x hm]
    · have e : mfind (mput L k b) j = mfind L j := by
        unfold mput
        split
        · rfl
        · rw [mfind_snoc]
          cases mfind L j with
          | none => simp [Ne.symm hj]
          | some x => simp
      refine ⟨?_, fun c hc z => ?_⟩
      · rw [has_put_other (by simpa using hj), (h3 j).1, e]
      · rw [atKey_put_other (by simpa using hj)]
        exact (h3 j).2 c (e ▸ hc) z

theorem keyI7 : Keyed Try.prog 3 := int_keyed Try.underlying3
theorem zeroS7 (w : World) : (zeroValue 9).run Try.prog w = .ok (.string (S [])) w := by kernel_rfl
/-- A block that is the map of these numbers and texts. -/
def SMap (w : World) (m : Nat) (L : List (Int × List UInt8)) : Prop := ∃ D : DataW Unit, w.ownsMap Try.prog 3 (plainElem Try.prog 9) m L.length D ∧ Rep D L
set_option maxRecDepth 100000 in
theorem plain_str_inv {v : Value} {l : List UInt8} {ps : List MemPlace} (h : plainElem (H := Unit) Try.prog 9 v = some (.lit (.string l), ps)) : v = .string (S l) := by
  unfold plainElem at h
  rw [Try.underlying9] at h
  cases v with
  | string s =>
    simp only at h
    split at h
    · simp only [Option.some.injEq, Prod.mk.injEq, DataW.lit.injEq, Lit.string.injEq] at h
      obtain ⟨h1, _⟩ := h
      subst h1
      exact congrArg Value.string (S_of s)
    · simp at h
  | _ => simp at h
theorem own_tight {w : World} {k : TypeId} {R : Value → Option (DataW Unit × List MemPlace)} {b n : Nat} {D : DataW Unit} (h : w.ownsMap Try.prog k R b n D) : w.ownsMap Try.prog k R b (size D) D := by
  obtain ⟨es, clock, hb, F, hs, rfl⟩ := h
  exact ⟨es, clock, hb, F, by simp [size, length_sorted], rfl⟩
section
variable {w W : World} {m : Nat} {L : List (Int × List UInt8)}
theorem SMap.new (w : World) : SMap (w.alloc (.map #[] 0)) w.heap.size [] := ⟨_, World.ownsMap_made _ _ _ _, Rep.nil⟩
theorem SMap.lt (h : SMap w m L) : m < w.heap.size := by obtain ⟨D, h1, h2⟩ := h; exact World.ownsMap.lt h1
theorem SMap.keptBy {bs : List Nat} (h : SMap w m L) (k : Kept bs w W) (hn : m ∉ bs) : SMap W m L := by
  obtain ⟨D, ⟨es, clock, hb, rest⟩, h2⟩ := h
  have hlt : m < w.heap.size := (Array.getElem?_eq_some_iff.1 hb).1
  exact ⟨D, ⟨es, clock, (k.block m hlt hn).trans hb, rest⟩, h2⟩
theorem SMap.below (h : SMap w m L) (b : Below w.heap.size w W) : SMap W m L := h.keptBy (Kept.ofBelow b []) (by simp)
theorem SMap.look (h : SMap w m L) (k : Int) (hk : (Lit.int .i64 k).wf = true) : (Instr.lookup 112 (.map (some m)) (.int .i64 k) false).run Try.prog w = .ok (.string (S ((mfind L k).getD []))) w := by
  obtain ⟨D, h1, h2⟩ := h
  obtain ⟨v, ps, hrun, hv⟩ := World.ownsMap.lookup h1 keyI7 Try.underlying112 (zeroS7 w) (plainElem_string Try.underlying9 (s := S []) (by simp [S_size])) (keyOf_int_mk Try.underlying3 hk)
  have e0 : (S []).data.toList = [] := rfl
  rw [e0, h2.at] at hv
  have he := plain_str_inv hv
  rw [hrun, he]
theorem SMap.look_ok (h : SMap w m L) (k : Int) (hk : (Lit.int .i64 k).wf = true) : (Instr.lookup 112 (.map (some m)) (.int .i64 k) true).run Try.prog w = .ok (.tuple #[.string (S ((mfind L k).getD [])), .bool (mfind L k).isSome]) w := by
  obtain ⟨D, h1, h2⟩ := h
  obtain ⟨v, ps, hrun, hv⟩ := World.ownsMap.look_ok h1 keyI7 Try.underlying112 (zeroS7 w) (plainElem_string Try.underlying9 (s := S []) (by simp [S_size])) (keyOf_int_mk Try.underlying3 hk)
  have e0 : (S []).data.toList = [] := rfl
  rw [e0, h2.at] at hv
  have he := plain_str_inv hv
  rw [hrun, he, (h2.2.2 k).1]
theorem SMap.len (h : SMap w m L) (ty : TypeId) : (Builtin.len_ #[112] ty #[.map (some m)]).run Try.prog w = .ok (.int .i64 (L.length : Nat)) w := by
  obtain ⟨D, h1, h2⟩ := h
  rw [World.ownsMap.len h1 Try.underlying112 ty, h2.2.1]
set_option maxRecDepth 100000 in
/-- m[k] = b, in the two steps of a store of several. -/
theorem SMap.entry (h : SMap w m L) (k : Int) (hk : (Lit.int .i64 k).wf = true) (b : List UInt8) (hb : b.length ≤ maxLen) (hL : L.length < maxLen) (hu : ∀ x, mfind L k = some x → x = b) :
    ∃ (v0 : Value) (st : Nat) (es1 : Array MapEntry) (c1 : Nat) (es2 : Array MapEntry) (c2 : Nat), (Instr.mapEntry 112 (.map (some m)) (.int .i64 k)).run Try.prog w = .ok (.tuple #[v0, goInt st]) (setBlock w m (.map es1 c1)) ∧
      (∀ W, W.heap[m]? = some (.map es1 c1) → (Instr.entryStore 112 (.map (some m)) (goInt st) (.string (S b))).run Try.prog W = .ok () (setBlock W m (.map es2 c2))) ∧
      ∀ W, W.heap[m]? = some (.map es2 c2) → SMap W m (mput L k b) := by
  obtain ⟨D, h1, h2⟩ := h
  have hkey : keyOf Try.prog 3 (.int .i64 k) = some (.int .i64 k) := keyOf_int_mk Try.underlying3 hk
  have hval : plainElem (H := Unit) Try.prog 9 (.string (S b)) = some (.lit (.string b), []) := plainElem_string Try.underlying9 (by rw [S_size]; exact hb)
  obtain ⟨w', hup, hown, _⟩ := World.ownsMap.update h1 keyI7 Try.underlying112 hL hkey hval
  have hrep := h2.put hu
  obtain ⟨es, clock, hbk, F, hs, hD⟩ := h1
  obtain ⟨s1, s2, _⟩ := F.stamped
  have fin : ∀ es2 c2, (Instr.mapUpdate 112 (.map (some m)) (.int .i64 k) (.string (S b))).run Try.prog w = .ok () (setBlock w m (.map es2 c2)) → ∀ W, W.heap[m]? = some (.map es2 c2) → SMap W m (mput L k b) := by
    intro es2 c2 hr W hW
    rw [hr] at hup
    simp only [Result.ok.injEq, true_and] at hup
    have hm : (setBlock w m (.map es2 c2)).heap[m]? = some (.map es2 c2) := heap_setBlock_same hbk _
    rw [hup] at hm
    have ht := own_tight hown
    rw [hrep.2.1] at ht
    obtain ⟨es3, c3, h3, rest⟩ := ht
    rw [hm] at h3
    simp only [Option.some.injEq, Obj.map.injEq] at h3
    obtain ⟨rfl, rfl⟩ := h3
    exact ⟨_, ⟨es2, c2, hW, rest⟩, hrep⟩
  have hz : ∀ u : World, (zeroValue 9).run Try.prog u = .ok (.string (S [])) u := zeroS7
  have ht := Try.underlying112
  rcases keyI7.find w hkey es.toList F.keys with ⟨f1, f2⟩ | ⟨j, e0, f1, f2, f3⟩
  · refine ⟨.string (S []), clock, es.push ⟨.int .i64 k, .string (S []), clock⟩, clock + 1, es.push ⟨.int .i64 k, .string (S b), clock⟩, clock + 1, ?_, fun W hW => ?_, fin _ _ ?_⟩
    · simp [Instr.mapEntry, run_underlying ht, MapKept.run_getObj_map hbk, keyI7.check w false hkey, f1, hz, MapKept.run_setObj_map _ hbk, Result.andThen, setBlock]
    · have hidx : (es.push ⟨.int .i64 k, .string (S []), clock⟩).findIdx? (fun e => ((e.born : Nat) : Int) == ((clock : Nat) : Int)) = some es.size := by
        rw [WideElems.findIdx_arr]
        exact WideElems.findIdx_born (l := (es.push ⟨.int .i64 k, .string (S []), clock⟩).toList) (j := es.size) (e0 := ⟨.int .i64 k, .string (S []), clock⟩) (by
          simp only [Array.toList_push, List.map_append, List.map_cons, List.map_nil]
          refine List.nodup_append.2 ⟨s2, by simp, fun a ha c hc e1 => ?_⟩
          simp only [List.mem_singleton] at hc
          obtain ⟨x, hx, rfl⟩ := List.mem_map.1 ha
          have := s1 x hx
          omega) (by simp)
      have hmod : (es.push ⟨.int .i64 k, .string (S []), clock⟩).modify es.size (fun e => { e with val := .string (S b) }) = es.push ⟨.int .i64 k, .string (S b), clock⟩ := by
        apply Array.ext'
        rw [Array.toList_modify, Array.toList_push, Array.toList_push, ← Array.length_toList, WideElems.modify_last]
      simp [Instr.entryStore, MapKept.run_getObj_map hW, asInt, asIntOf, goInt, hidx, hmod, MapKept.run_setObj_map _ hW, Result.andThen, setBlock]
    · simp [Instr.mapUpdate, run_underlying ht, MapKept.run_getObj_map hbk, keyI7.check w false hkey, f1, MapKept.run_setObj_map _ hbk, Result.andThen, setBlock]
  · have hj : es[j]? = some e0 := by simpa using f2
    have hsame : es.modify j (fun e => { e with key := .int .i64 k }) = es := by
      apply Array.ext'
      rw [Array.toList_modify, modify_eq_set _ _ _ _ f2]
      have : ({ e0 with key := .int .i64 k } : MapEntry) = e0 := by rw [← f3]
      rw [this]
      exact WideElems.set_self _ _ _ f2
    refine ⟨e0.val, e0.born, es, clock, es.modify j (fun e' => { e' with key := .int .i64 k, val := .string (S b) }), clock, ?_, fun W hW => ?_, fin _ _ ?_⟩
    · simp [Instr.mapEntry, run_underlying ht, MapKept.run_getObj_map hbk, keyI7.check w false hkey, f1, hj, f3, keyI7.stays w hkey, hsame, MapKept.run_setObj_map _ hbk, Result.andThen, setBlock]
    · have hidx : es.findIdx? (fun e => ((e.born : Nat) : Int) == ((e0.born : Nat) : Int)) = some j := by
        rw [WideElems.findIdx_arr]
        exact WideElems.findIdx_born s2 f2
      have hmod : es.modify j (fun e => { e with val := .string (S b) }) = es.modify j (fun e' => { e' with key := .int .i64 k, val := .string (S b) }) := by
        apply Array.ext'
        rw [Array.toList_modify, Array.toList_modify, modify_eq_set _ _ _ _ f2, modify_eq_set _ _ _ _ f2, ← f3]
      simp [Instr.entryStore, MapKept.run_getObj_map hW, asInt, asIntOf, goInt, hidx, hmod, MapKept.run_setObj_map _ hW, Result.andThen, setBlock]
    · simp [Instr.mapUpdate, run_underlying ht, MapKept.run_getObj_map hbk, keyI7.check w false hkey, f1, hj, f3, keyI7.stays w hkey, MapKept.run_setObj_map _ hbk, Result.andThen, setBlock]
end
end Go.Proofs.Ytohplhahghilaaa

set_option linter.unusedVariables false
set_option linter.unusedSimpArgs false
namespace Go.Proofs.Ytohplhahghilaaa
open Go.RowKit Go.Maps Go.ChangeMaps Go.MapKept
attribute [local go_sem] ByteArray.extract_mk ByteArray.mk_append_mk

theorem wf_i64 {i : Int} (h1 : -9223372036854775808 ≤ i) (h2 : i ≤ 9223372036854775807) : (Lit.int .i64 i).wf = true := by
  have e1 : IntKind.i64.min = -9223372036854775808 := by decide
  have e2 : IntKind.i64.max = 9223372036854775807 := by decide
  simp [Lit.wf, e1, e2]
  omega
/-- A gatherer: its block, its map, a digest, how many, numbers and texts. -/
def JAt (w : World) (p m d : Nat) (n : Int) (L : List (Int × List UInt8)) : Prop := Blk w p #[.int .u64 (d : Nat), .int .i64 n, .map (some m)] 114 ∧ SMap w m L
section
variable {w W : World} {p m d : Nat} {n : Int} {L : List (Int × List UInt8)}
theorem JAt.below (h : JAt w p m d n L) (b : Below w.heap.size w W) : JAt W p m d n L := ⟨h.1.below b, h.2.below b⟩
theorem JAt.keptBy {bs : List Nat} (h : JAt w p m d n L) (k : Kept bs w W) (h1 : p ∉ bs) (h2 : m ∉ bs) : JAt W p m d n L := ⟨h.1.keptBy k h1, h.2.keptBy k h2⟩
theorem JAt.ne (h : JAt w p m d n L) : p ≠ m := by
  intro e
  obtain ⟨h1, D, ⟨es, c, hb, _⟩, _⟩ := h
  rw [← e] at hb
  unfold Blk at h1
  rw [h1] at hb
  simp at hb
end
set_option maxHeartbeats 1000000 in
theorem new7 (d : Nat) (w : World) : Calls Try.prog 26 #[.int .u64 (d : Nat)] w fun x w' => ∃ p m, x = .returned (.pointer (some ⟨p, 0, none⟩)) ∧ JAt w' p m d 0 [] ∧ Below w.heap.size w w' ∧ w.heap.size ≤ p ∧ w.heap.size ≤ m := by
  have hmm := @run_makeMap Try.prog
  go_enter Try.func26, Try.ntmps26
  go_wp2_with fail
  have h1 := (SMap.new w).below (below_all (o := .cells #[.int .u64 (d : Nat), .int .i64 0, .map (some w.heap.size)] 114) (Below.refl _ _))
  have h2 := Blk.new (w.alloc (.map #[] 0)) #[.int .u64 (d : Nat), .int .i64 0, .map (some w.heap.size)] 114
  rw [World.size_alloc] at h2
  go_ret
  exact ⟨w.heap.size + 1, w.heap.size, rfl, ⟨h2, h1⟩, below_all (below_all (Below.refl _ _)), by omega, Nat.le_refl _⟩

/-- What taking comes to: an error, how many, numbers and texts. -/
def jtake (d : Nat) (n : Int) (L : List (Int × List UInt8)) (c : Chk) : Nat × Int × List (Int × List UInt8) :=
  if c.right = false then (70, n, L)
  else if c.d ≠ d ∨ (L ≠ [] ∧ c.n ≠ n) ∨ (∃ x, mfind L c.i = some x ∧ x ≠ c.b) then (71, n, L)
  else (0, c.n, mput L c.i c.b)
def JCall (f : FuncId) (args : Array Value) (w : World) (p m d : Nat) (v : Value) (n : Int) (L : List (Int × List UInt8)) : Prop :=
  Calls Try.prog f args w fun x w' => x = .returned v ∧ JAt w' p m d n L ∧ Kept [p, m] w w'
theorem JCall.intro {f : FuncId} {args : Array Value} {w : World} {p m d : Nat} {v : Value} {n : Int} {L : List (Int × List UInt8)}
    (h : ∀ R : Ending → World → Prop, Hid (∀ w', JAt w' p m d n L → Kept [p, m] w w' → R (.returned v) w') → Calls Try.prog f args w R) : JCall f args w p m d v n L := h _ fun _ h1 h2 => ⟨rfl, h1, h2⟩
theorem JCall.use {f : FuncId} {args : Array Value} {w : World} {p m d : Nat} {v : Value} {n : Int} {L : List (Int × List UInt8)} {R : Ending → World → Prop} (h : JCall f args w p m d v n L)
    (k : ∀ w', JAt w' p m d n L → Kept [p, m] w w' → R (.returned v) w') : Calls Try.prog f args w R := h.mono fun x w' ⟨he, h1, h2⟩ => by subst he; exact k _ h1 h2

theorem grown_block {w : World} {b : Nat} {es : Array MapEntry} {c : Nat} (hb : w.heap[b]? = some (.map es c)) (o : Obj) : w.grownBy (setBlock w b o) (some b) :=
  ⟨rfl, rfl, rfl, by simp [setBlock], fun i _ hi => heap_setBlock_other hb _ (fun e => hi (by rw [e]))⟩
set_option maxHeartbeats 2000000 in
theorem take7_bad (p m d : Nat) (n : Int) (L : List (Int × List UInt8)) (c : Chk) (w : World) (h : JAt w p m d n L) (hr : c.right = false) :
    JCall 29 #[.pointer (some ⟨p, 0, none⟩), c.val] w p m d (.int .i64 70) n L := by
  refine JCall.intro fun R hR => ?_
  have cr := right7 c
  obtain ⟨i, cn, cd, b⟩ := c
  unfold Chk.val at cr ⊢
  rw [hr] at cr
  go_enter Try.func29, Try.ntmps29
  go_wp2_with fail
  refine (cr _).use ?_
  intro w1 b1
  go_wp2_with fail
  have B := below_any (Nat.le_refl _) (below_all (Below.refl w.heap.size w)) b1
  exact hR.out _ (h.below B) (Kept.ofBelow B _)

end Go.Proofs.Ytohplhahghilaaa
