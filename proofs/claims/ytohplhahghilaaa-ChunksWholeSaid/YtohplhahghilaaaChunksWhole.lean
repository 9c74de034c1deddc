/-
  The law ChunksWhole: for every input it returns true, and each argument reads afterwards as it read before.
-/
import Derived.Test.YtohplhahghilaaaFrame
import Derived.Test.YtohplhahghilaaaSegT
import Derived.Test.YtohplhahghilaaaWChunksWhole
import Derived.SizedLaws
set_option linter.unusedVariables false
set_option linter.unusedSimpArgs false
namespace Go.Proofs.Ytohplhahghilaaa.chunksWhole
open Go.ChangeShapes Go.WideShapes Go.ChangeAt Go.RowKit
open Go.ChangeMaps (open_string shut_string)

set_option maxRecDepth 100000 in
theorem nums_reach {H : Type} {enc : TypeId × Value → H} {W : World} {v : Value} {d : DataW H} {p : List MemPlace} {l : List Int} (h : DataW.Trod enc Try.prog W 0 (fun _ => true) true 48 v d p) (hl : NumsIn W v l) :
    l.length = 0 ∨ ∃ e sp, d = .slice e sp ∧ e.length = l.length := by
  obtain ⟨a, cap, rfl⟩ := hl.form
  obtain ⟨fuel, hf⟩ := h
  rcases open_ints Try.underlying48 Try.underlying3 (show Try.prog.cellsOf 3 = 1 by kernel_rfl) hf with ⟨hcs, _⟩ | ⟨a', len', cap', zs, hcs, hlc, hle, hm, hz, hx, hcell, hwz⟩
  · simp [Value.cells] at hcs
    left
    have := hcs.2.1
    simp [this]
  · simp [Value.cells] at hcs
    obtain ⟨_, rfl, _⟩ := hcs
    right
    simp only [if_true] at hz
    simp only [Prod.mk.injEq] at hx
    refine ⟨_, _, hx.1, ?_⟩
    simp [lits]
    omega
set_option maxRecDepth 100000 in
theorem lifted (os : Os) (started : os.Started) (H : Type) (enc : TypeId × Value → H) :
    ReturnsInHanded {} Try.checked os 6 .any (Rows.chunksWholeSpec.pre6 enc Try.prog Try.f6 Rows.chunksWholeRow.domain false) (Rows.chunksWholeSpec.post enc Try.prog Try.f6 false true false false) := by
  refine returnsInHanded_of_change_sized (C := Try.checked) own started (by kernel_rfl) Try.func6
    (ChangeSpec.witness6 (enc := enc) (C := Try.checked) false ⟨#[], #[.string ByteArray.empty, .int .i64 0, .slice none 0 0], []⟩ 8 (by kernel_rfl) (by kernel_rfl) (by kernel_rfl) (by kernel_rfl)) ?_
  intro W base args ds gs before hval0 hW hcnd hsz _
  have hval : ∀ (j : Nat) t v, Try.f6.params[j]? = some t → args[j]? = some v → Value.okWide Try.prog W .any base t v := hval0
  have hW' := hW
  obtain ⟨p, q, hA0, hV, rfl, hfz, hnd⟩ := hW
  have hA : DataW.TrodAll enc Try.prog W 0 (fun _ => true) true Try.f6.params.toList args.toList ds p := hA0
  rw [Try.params6] at hA hval
  obtain ⟨v0, vs0, d0, ds0, p0, q0, hargs, rfl, rfl, h0, r0⟩ := trodAll_cons hA
  obtain ⟨v1, vs1, d1, ds1, p1, q1, rfl, rfl, rfl, h1, r1⟩ := trodAll_cons r0
  obtain ⟨v2, vs2, d2, ds2, p2, q2, rfl, rfl, rfl, h2, r2⟩ := trodAll_cons r1
  obtain ⟨rfl, rfl, rfl⟩ := trodAll_nil r2
  obtain rfl : args = #[v0, v1, v2] := by cases args; simp_all
  obtain ⟨rfl, rfl⟩ := trodVars_none hV
  obtain ⟨s0, rfl, rfl, rfl, w0⟩ := open_string Try.underlying9 (hval 0 9 v0 rfl rfl) h0
  obtain ⟨a0, rfl⟩ : ∃ l, s0 = S l := ⟨_, S_of s0⟩
  rw [S_size] at w0
  obtain ⟨a1, rfl, rfl, rfl, w1⟩ := open_int Try.underlying3 (hval 1 3 v1 rfl rfl) h1
  have w1 := bd_i64 w1
  obtain ⟨l2, hl2, w2⟩ := numsOf (hval 2 48 v2 rfl rfl) h2
  have hlen2 : l2.length ≤ 140737488355328 := by
    rcases nums_reach h2 hl2 with h | ⟨e, sp, hd, he⟩
    · omega
    · have h3 := sized_slice hsz (j := 2) (t := 48) (e := 3) (elems := e) (spare := sp) (by kernel_rfl) (by rw [hd]; rfl) Try.underlying48
      have h4 : Try.checked.prog.bytesOf 3 = 8 := by kernel_rfl
      have h5 := reachBytes_lt
      rw [h4] at h3
      omega
  clear hA0 hval0 hsz
  simp only [List.append_nil] at hW'
  refine (walk (w := W) a0 a1 v2 l2 w0 w1 hl2 hlen2).mono fun e W' ⟨he, hb⟩ => ?_
  subst he
  exact ⟨_, rfl, law_post hW' rfl rfl Try.underlying4 rfl laidOut (by rw [Try.params6]; decide) hb⟩

theorem over : Rows.chunksWholeRow.holds Try.pinned (OpenSpec.ofChange Rows.chunksWholeSpec) :=
  OpenClaim.holds_of_wide 6 Try.f6 rfl rfl rfl rfl rfl rfl rfl ⟨rfl, rfl, rfl, rfl, rfl⟩ rfl rfl rfl rfl rfl (by kernel_rfl) Try.func6 (by kernel_rfl)
    (of_decide_eq_true (by kernel_rfl)) (by unfold Func.isWrapper; first | (rw [if_pos (by decide +kernel)]; kernel_rfl) | (rw [if_neg (by decide +kernel)]; exact ⟨rfl, rfl⟩))
    (fun os started H enc _ => lifted os started H enc)

/-- The statement. -/
theorem proved : Rows.ChunksWholeSaid := over
#print axioms proved
end Go.Proofs.Ytohplhahghilaaa.chunksWhole
