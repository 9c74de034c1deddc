import Derived.Test.YtkfglnhapcceaaaLogG
import Derived.Test.YtkfglnhapcceaaaLogD
/-
  Layer 6: a log loaded: the contract.
-/
set_option linter.unusedVariables false
set_option linter.unusedSimpArgs false
namespace Go.Proofs.Ytkfglnhapcceaaa
open Go.RowKit
attribute [local go_sem] ByteArray.extract_mk ByteArray.mk_append_mk

theorem load5_ok (base next : Int) (v : Value) (l : List Fnd) (w : World) (hv : FndsIn w v l) (hll : l.length ≤ 9223372036854775807) (hbd : ∀ f ∈ l, RecBd f.r) (h0 : lerr base next l = 0) :
    Calls Try.prog 33 #[.int .i64 base, .int .i64 next, v] w fun x w' => ∃ p bs, x = .returned (.tuple #[.pointer (some ⟨p, 0, none⟩), .int .i64 0]) ∧ SegAt w' p bs base next l ∧ Below w.heap.size w w' ∧ ∀ x ∈ bs, w.heap.size ≤ x :=
  (load5 base next v l w hv hll hbd).mono fun x w' h => by
    rcases h with ⟨_, h⟩ | ⟨h, _⟩
    · exact h
    · exact absurd h0 h
theorem load5_no (base next : Int) (v : Value) (l : List Fnd) (w : World) (hv : FndsIn w v l) (hll : l.length ≤ 9223372036854775807) (hbd : ∀ f ∈ l, RecBd f.r) (h0 : lerr base next l ≠ 0) :
    RetB Try.prog 33 #[.int .i64 base, .int .i64 next, v] w (.tuple #[.pointer none, .int .i64 (lerr base next l : Nat)]) :=
  (load5 base next v l w hv hll hbd).mono fun x w' h => by
    rcases h with ⟨h, _⟩ | ⟨_, h⟩
    · exact absurd h h0
    · exact h

/-- What is wrong with segments one behind the other, where one ends at p ahead of them. -/
def gscan (room : Int) : Option Int → List Sd → Nat
  | _, [] => 0
  | p, s :: D => if lerr s.base s.next s.l ≠ 0 then lerr s.base s.next s.l else if room < s.l.length ∨ (p ≠ none ∧ p ≠ some s.base) then 1 else gscan room (some s.next) D
/-- What a log's loading comes to. -/
def gerr (room : Int) (D : List Sd) : Nat := if ¬ (1 ≤ room ∧ room ≤ 64) ∨ D = [] then 1 else gscan room none D
def prevOf (D : List Sd) (k : Nat) : Option Int := if k = 0 then none else (D[k - 1]?).map Sd.next
theorem prevOf_zero (D : List Sd) : prevOf D 0 = none := rfl
theorem prevOf_succ {D : List Sd} {k : Nat} (h : k < D.length) : prevOf D (k + 1) = some D[k].next := by
  unfold prevOf
  rw [if_neg (by omega), Nat.add_sub_cancel, List.getElem?_eq_getElem h]
  rfl
theorem gscan_at {room : Int} {D : List Sd} {k : Nat} (h : k < D.length) : gscan room (prevOf D k) (D.drop k) = if lerr D[k].base D[k].next D[k].l ≠ 0 then lerr D[k].base D[k].next D[k].l else if room < D[k].l.length ∨ (prevOf D k ≠ none ∧ prevOf D k ≠ some D[k].base) then 1 else gscan room (prevOf D (k + 1)) (D.drop (k + 1)) := by
  rw [List.drop_eq_getElem_cons h, prevOf_succ h]
  rfl
/-- How a log's loading ends. -/
def LoadL (f : FuncId) (args : Array Value) (w : World) (room : Int) (D : List Sd) : Prop :=
  Calls Try.prog f args w fun x w' => (gerr room D = 0 ∧ ∃ g cs ss, x = .returned (.tuple #[.pointer (some ⟨g, 0, none⟩), .int .i64 0]) ∧ LogAt w' g cs room ss ∧ ss.map Sg.d = D ∧ Below w.heap.size w w' ∧ ∀ x ∈ cs, w.heap.size ≤ x) ∨
    (gerr room D ≠ 0 ∧ x = .returned (.tuple #[.pointer none, .int .i64 (gerr room D : Nat)]) ∧ Below w.heap.size w w')

set_option maxHeartbeats 1000000 in
theorem load6_args (room : Int) (v : Value) (bs : List Nat) (D : List Sd) (w : World) (hv : SegsIn w v bs D) (hDl : D.length ≤ 1000) (h : ¬ (1 ≤ room ∧ room ≤ 64) ∨ D = []) :
    RetB Try.prog 11 #[.int .i64 room, v] w (.tuple #[.pointer none, .int .i64 1]) := by
  refine RetB.intro fun R hR => ?_
  have cm := fun w => may6 room w
  obtain ⟨a, cap, rfl⟩ := hv.form
  clear hv
  by_cases hr : 1 ≤ room ∧ room ≤ 64
  · have h0 : D = [] := h.elim (fun h => absurd hr h) id
    subst h0
    rw [decide_eq_true hr] at cm
    clear h
    go_enter Try.func11, Try.ntmps11
    go_wp2_with fail
    refine (cm _).use ?_
    go_wp2_with fail
    exact finB hR (Below.refl _ _) rfl
  · rw [decide_eq_false hr] at cm
    clear h hr
    go_enter Try.func11, Try.ntmps11
    go_wp2_with fail
    refine (cm _).use ?_
    go_wp2_with fail
    exact finB hR (Below.refl _ _) rfl

set_option maxHeartbeats 8000000 in
set_option maxRecDepth 100000 in
theorem load6 (room : Int) (v : Value) (bs : List Nat) (D : List Sd) (w : World) (hv : SegsIn w v bs D) (hDl : D.length ≤ 1000) (hbd : ∀ s ∈ D, s.l.length ≤ 9223372036854775807 ∧ ∀ f ∈ s.l, RecBd f.r) : LoadL 11 #[.int .i64 room, v] w room D := by
  by_cases harg : ¬ (1 ≤ room ∧ room ≤ 64) ∨ D = []
  · have he : gerr room D = 1 := by unfold gerr; rw [if_pos harg]
    refine (load6_args room v bs D w hv hDl harg).mono fun e w' ⟨h1, h2⟩ => .inr ⟨by omega, by rw [h1, he]; rfl, h2⟩
  · have hr : 1 ≤ room ∧ room ≤ 64 := by
      by_cases h : 1 ≤ room ∧ room ≤ 64
      · exact h
      · exact absurd (.inl h) harg
    have hD : D ≠ [] := fun h => harg (.inr h)
    have hge : gerr room D = gscan room none D := by unfold gerr; rw [if_neg harg]
    obtain ⟨i0, hi, hz0, hz1, hz2⟩ := info_parts ptrInfo
    have cm := fun w => may6 room w
    rw [decide_eq_true hr] at cm
    have HGE := Lib.hid hge
    have HV := Lib.hid hv
    have HBD := Lib.hid hbd
    obtain ⟨a, cap, rfl⟩ := hv.form
    have hDpos : 0 < D.length := List.length_pos_iff.2 hD
    have q0 : ((D.length : Int) == 0) = false := by simp; omega
    clear hv hbd harg hge
    unfold LoadL
    go_enter Try.func11, Try.ntmps11
    go_wp2_with fail
    refine (cm _).use ?_
    go_wp2_with fail
    clear q0 cm
    have L0 : LogAt (w.alloc (.cells #[.int .i64 room, .slice none 0 0] 70)) w.heap.size [w.heap.size] room [] :=
      ⟨.slice none 0 0, Blk.new _ _ _, World.ownsRow_nil _ _ _ _, ⟨by simp, List.Pairwise.nil⟩, by simp [sgB], by simp [Value.ownBlock, sgB]⟩
    have G0 : Below w.heap.size w (w.alloc (.cells #[.int .i64 room, .slice none 0 0] 70)) := below_all (Below.refl _ _)
    have hz00 : (w.alloc (.cells #[.int .i64 room, .slice none 0 0] 70)).heap.size = w.heap.size + 1 := by simp
    have HZ00 := Lib.hid hz00
    clear hz00
    generalize w.alloc (.cells #[.int .i64 room, .slice none 0 0] 70) = W0 at L0 G0 HZ00 ⊢
    go_loopw [9, 24] (fun (v9 v24 : Value) (W : World) => ∃ (k : Nat) (cs : List Nat) (ss : List Sg), k ≤ D.length ∧ v24 = .int .i64 (k : Int) ∧ LogAt W w.heap.size cs room ss ∧ Hid (ss.map Sg.d = D.take k) ∧ Below w.heap.size w W ∧ (∀ x ∈ cs, w.heap.size ≤ x) ∧ Hid (gscan room (prevOf D k) (D.drop k) = gscan room none D)) (fun (v9 v24 : Value) (W : World) => (D.length - intOf v24).toNat)
    case atStart => exact ⟨0, _, [], by omega, rfl, L0, Lib.hid rfl, G0, by simp, Lib.hid rfl⟩
    case round =>
      obtain ⟨k, cs, ss, hk, rfl, hL, hss, hnx, hcs, hsc⟩ := hrel
      by_cases hkl : k < D.length
      · rcases HV.out.below hnx with ⟨h, _⟩ | ⟨b, off, cap', lvs, hsl, hcap, hne, hlt, hbm, hlv, hf⟩
        · exact absurd h hD
        simp only [Value.slice.injEq, true_and] at hsl
        obtain ⟨rfl, rfl⟩ := hsl
        have j0 : (0 : Int) ≤ (k : Int) := by omega
        have j1 : (k : Int) < (D.length : Int) := by omega
        obtain ⟨⟨c0, c1, c2, c3⟩, _⟩ := hf k hkl (by omega)
        have hbk := HBD.out _ (List.getElem_mem hkl)
        have hsg := (gscan_at (room := room) hkl).symm.trans hsc.out
        have hts : D.take (k + 1) = D.take k ++ [D[k]] := List.take_succ_eq_append_getElem hkl
        have HTS := Lib.hid hts
        have HSG := Lib.hid hsg
        have hprev : ∀ j, (e : k = j + 1) → prevOf D k = some (D[j]'(by omega)).next := fun j e => by subst e; exact prevOf_succ _
        have hcell : ∀ j, (e : k = j + 1) → wr.cell? ⟨b, off + j * 3 + 1, none⟩ = some (.int .i64 (D[j]'(by omega)).next) := fun j e => (hf j (by omega) (by omega)).1.2.1
        have HPV := Lib.hid hprev
        have HCL := Lib.hid hcell
        obtain ⟨la, lc, hlk⟩ := c3.form
        rw [hlk] at c2 c3
        have C3 := Lib.hid c3
        have hss2 := Lib.hid (show ∀ s : Sg, s.d = D[k] → (ss ++ [s]).map Sg.d = D.take (k + 1) from fun s e => by rw [List.map_append, hss.out, HTS.out, ← e]; rfl)
        have HBK := Lib.hid hbk
        generalize D[k] = s at *
        clear hf hne hts hsg hprev hcell hlk hbk hsc hss HTS c3
        have A1 := below_all (o := .cells #[.int .i64 s.base, .int .i64 s.next, .slice la s.l.length lc] 26) (Below.refl wr.heap.size wr)
        have B1 := Lib.hid A1
        have hX := Blk.new wr #[.int .i64 s.base, .int .i64 s.next, .slice la s.l.length lc] 26
        have HX := Lib.hid hX
        have F1 := Lib.hid (C3.out.below A1)
        have hl9 := HBK.out.1
        clear hX A1
        by_cases hle : lerr s.base s.next s.l = 0
        · have cL := Lib.hid (load5_ok s.base s.next _ s.l _ F1.out HBK.out.1 HBK.out.2 hle)
          have HS1 := HSG.out
          rw [if_neg (by simp [hle])] at HS1
          have HS2 := Lib.hid HS1
          clear HSG HS1 hle
          go_wp2_with fail
          refine cL.out.mono ?_
          rintro e w1 ⟨p, ps, rfl, hS1, b1, hps⟩
          have hb1 := below_any (Nat.le_refl _) B1.out b1
          have hX1 := HX.out.below b1
          obtain ⟨m0, m1, m2, m3⟩ := hX1.c3
          have HX1 := Lib.hid hX1
          have hnx1 := below_any (Nat.le_refl _) hnx hb1
          have SS1 := Lib.hid hS1
          have hps2 : Hid (∀ x ∈ ps, wr.heap.size ≤ x) := Lib.hid (fun x hx => Nat.le_trans B1.out.size (hps x hx))
          clear hX1 hps hS1
          by_cases hroom : room < (s.l.length : Int)
          · have he : Hid (1 = gscan room none D) := Lib.hid (by have := HS2.out; rwa [if_pos (.inl hroom)] at this)
            have he2 : Hid (gerr room D = 1) := Lib.hid (HGE.out.trans he.out.symm)
            have he3 : Hid (gerr room D ≠ 0) := Lib.hid (by rw [he2.out]; simp)
            have t1 : (room < (s.l.length : Int)) = True := eq_true hroom
            go_wp2_with fail
            go_quiet (fail)
            go_wp2_with fail
            go_ret2
            exact .inr ⟨he3.out, by rw [he2.out]; rfl, belowN hnx1 _⟩
          · have t1 : (room < (s.l.length : Int)) = False := eq_false hroom
            have hfin : Hid (∀ (k : Nat) (ss : List Sg), ss.map Sg.d = s :: D → True) := Lib.hid (fun _ _ _ => trivial)
            clear hfin
            by_cases hbad : prevOf D k ≠ none ∧ prevOf D k ≠ some s.base
            · have he : Hid (1 = gscan room none D) := Lib.hid (by have := HS2.out; rwa [if_pos (.inr hbad)] at this)
              have he2 : Hid (gerr room D = 1) := Lib.hid (HGE.out.trans he.out.symm)
              have he3 : Hid (gerr room D ≠ 0) := Lib.hid (by rw [he2.out]; simp)
              have hk0 : k ≠ 0 := fun e => hbad.1 (by rw [e]; exact prevOf_zero D)
              obtain ⟨j, hj⟩ : ∃ j, k = j + 1 := ⟨k - 1, by omega⟩
              have hpj := HPV.out j hj
              have hcj := (hb1.cell (p := ⟨b, off + j * 3 + 1, none⟩) hlt).trans (HCL.out j hj)
              obtain ⟨x, hx⟩ : ∃ x, (D[j]'(by omega)).next = x := ⟨_, rfl⟩
              rw [hx] at hpj hcj
              have hne : (s.base != x) = true := by
                have h2 := hbad.2
                rw [hpj] at h2
                simp only [ne_eq, Option.some.injEq] at h2
                simpa using fun e => h2 e.symm
              have t2 : ((0 : Int) < (k : Int)) = True := eq_true (by omega)
              have t3 : (0 < k) = True := eq_true (by omega)
              have e1 : IntKind.i64.wrap ((k : Int) - 1) = (j : Int) := by rw [IntKind.wrap_i64]; omega
              have i1 : (0 : Int) ≤ (j : Int) := by omega
              have i2 : (j : Int) < (D.length : Int) := by omega
              have hlt1 : b < w1.heap.size := Nat.lt_of_lt_of_le hlt hb1.size
              clear hx hpj hbad hj
              go_wp2_with fail
              go_quiet (fail)
              go_wp2_with fail
              go_ret2
              exact .inr ⟨he3.out, by rw [he2.out]; rfl, belowN hnx1 _⟩
            · have HS3 : Hid (gscan room (prevOf D (k + 1)) (D.drop (k + 1)) = gscan room none D) := Lib.hid (by
                have := HS2.out
                rwa [if_neg (by rintro (h | h); exact hroom h; exact hbad h)] at this)
              have hsl : Hid (ss.length = k) := Lib.hid (by
                have h1 := congrArg List.length (hss2.out ⟨p, ps, s⟩ rfl)
                rw [List.length_map, List.length_append, List.length_take, List.length_singleton] at h1
                omega)
              have hsl2 : ss.length ≤ 1000 := by have := hsl.out; omega
              have HCS := Lib.hid hcs
              clear hsl HS2 hcs
              by_cases hk0 : k = 0
              · subst hk0
                clear hbad
                have t2 : ((0 : Int) < ((0 : Nat) : Int)) = False := eq_false (by omega)
                go_wp2_with fail
                go_quiet (fail)
                have b3 := Lib.hid (belowN (Below.refl w1.heap.size w1) nq)
                have hb13 := Lib.hid (below_any (Nat.le_refl _) hb1 b3.out)
                have L1 := (hL.below hb1).below b3.out
                have S3 := Lib.hid (SS1.out.below b3.out)
                have hLlt := Lib.hid hL.lt
                have hnx3 := Lib.hid (below_any (Nat.le_refl _) hnx1 b3.out)
                clear m0 m1 m2 m3 HX1 SS1 hnx1 hb1 hL
                generalize w1.drewN nq = w3 at *
                obtain ⟨lv, l1, l2, l3, l4, hbs⟩ := L1
                obtain ⟨la2, lc2, rfl⟩ := own_form l2
                obtain ⟨kk, u0, u1⟩ := l1.c2
                have fz : ∀ i, w3.frozen? ⟨w.heap.size, i, none⟩ = false := fun i => Blk.frozen l1 i
                have l2a := World.ownsRow.alloc l2 (.cells #[.pointer (some ⟨p, 0, none⟩)] 71)
                have l1a := l1.alloc (.cells #[.pointer (some ⟨p, 0, none⟩)] 71)
                have l3a := Lib.hid (l3.kept (Kept.ofBelow (below_all (o := .cells #[.pointer (some ⟨p, 0, none⟩)] 71) (Below.refl _ _)) []) (by simp))
                have s4a : SgAt (w3.alloc (.cells #[.pointer (some ⟨p, 0, none⟩)] 71)) ⟨p, ps, s⟩ := S3.out.below (below_all (Below.refl _ _))
                have S4A := Lib.hid s4a
                have hsep : Hid (∀ x ∈ ps, x ≠ w.heap.size ∧ (Value.slice la2 ss.length lc2).ownBlock ≠ some x ∧ x ∉ sgB ss) := Lib.hid (fun x hx => by
                  have h5 := hps2.out x hx
                  have h6 := hLlt.out
                  rw [hbs] at h6
                  refine ⟨fun e => ?_, fun e => ?_, fun e => ?_⟩
                  · have := h6 w.heap.size (by simp); omega
                  · have := h6 x (by simp only [List.mem_cons, List.mem_append, Option.mem_toList]; exact .inr (.inl e)); omega
                  · have := h6 x (by simp only [List.mem_cons, List.mem_append, Option.mem_toList]; exact .inr (.inr e)); omega)
                have HL4 := Lib.hid l4
                have HBS := Lib.hid hbs
                have hz3 := hnx3.out.size
                have hz4 := hnx.size
                clear l3 l4 s4a hbs l2
                generalize hN : ss.length = N at *
                have HNL := Lib.hid hN
                clear hN
                go_wp2_with (at_builtin; refine wpList_append_own_at _ rfl _ _ 68 rfl 0 71 i0 _ 1 8 Try.underlying68 hi hz0 hz1 hz2 rfl (by decide) _ _ _ rfl l2a ⟨w3.heap.size, 0, none⟩ 1 1 [.pointer (some ⟨p, 0, none⟩)] rfl rfl (news_ptr p rfl) (by simp [Value.oneCell']) (by unfold maxLen; omega) (by omega) (by omega) ?_; intro v5 w5 o5 g5 z7 at5; obtain ⟨va5, vc5, rfl⟩ := own_form o5; have S9 := l1a.grown g5 (own_ne l2a l1a (by decide)); obtain ⟨k9, s0, s1⟩ := S9.c2; have fz9 : ∀ i, w5.frozen? ⟨w.heap.size, i, none⟩ = false := fun i => Blk.frozen S9 i)
                have hn5 : N = ss.length := HNL.out.symm
                subst hn5
                obtain ⟨cs2, L6, K6, C6⟩ := LogAt.push (s := ⟨p, ps, s⟩) l1a l2a l3a.out HL4.out S4A.out hsep.out (by simpa [Sg.ptr] using o5) g5 at5
                rw [← HBS.out] at K6 C6
                have hB6 := Lib.hid (Kept.below (below_all (o := .cells #[.pointer (some ⟨p, 0, none⟩)] 71) hnx3.out) K6 HCS.out (by simp; omega))
                have hC6 := Lib.hid (fun x hx => (show w.heap.size ≤ x from by
                  rcases C6 x hx with h | h | h
                  · exact HCS.out x h
                  · exact Nat.le_trans hz4 (hps2.out x h)
                  · simp at h; omega))
                have HL6 := Lib.hid L6
                clear K6 C6 L6
                go_roundw
                case rel => exact ⟨0 + 1, cs2, ss ++ [⟨p, ps, s⟩], by omega, by go_num, HL6.out, Lib.hid (hss2.out _ rfl), hB6.out, hC6.out, HS3⟩
                case measure => first | (simp [intOf]; done) | (simp [intOf]; omega)
              · obtain ⟨j, hj⟩ : ∃ j, k = j + 1 := ⟨k - 1, by omega⟩
                have hpj := HPV.out j hj
                have hcj := (hb1.cell (p := ⟨b, off + j * 3 + 1, none⟩) hlt).trans (HCL.out j hj)
                obtain ⟨x, hx⟩ : ∃ x, (D[j]'(by omega)).next = x := ⟨_, rfl⟩
                rw [hx] at hpj hcj
                have hne : (s.base != x) = false := by
                  by_cases e : s.base = x
                  · simp [e]
                  · exact absurd ⟨by rw [hpj]; simp, by rw [hpj]; simp; exact fun h => e h.symm⟩ hbad
                have t2 : ((0 : Int) < (k : Int)) = True := eq_true (by omega)
                have t3 : (0 < k) = True := eq_true (by omega)
                have e1 : IntKind.i64.wrap ((k : Int) - 1) = (j : Int) := by rw [IntKind.wrap_i64]; omega
                have i1 : (0 : Int) ≤ (j : Int) := by omega
                have i2 : (j : Int) < (D.length : Int) := by omega
                have hlt1 : b < w1.heap.size := Nat.lt_of_lt_of_le hlt hb1.size
                clear hx hpj hbad hj hk0
                go_wp2_with fail
                go_quiet (fail)
                clear e1 i1 i2 t2 t3 hne hcj hlt1
                have b3 := Lib.hid (belowN (Below.refl w1.heap.size w1) nq)
                have hb13 := Lib.hid (below_any (Nat.le_refl _) hb1 b3.out)
                have L1 := (hL.below hb1).below b3.out
                have S3 := Lib.hid (SS1.out.below b3.out)
                have hLlt := Lib.hid hL.lt
                have hnx3 := Lib.hid (below_any (Nat.le_refl _) hnx1 b3.out)
                clear m0 m1 m2 m3 HX1 SS1 hnx1 hb1 hL
                generalize w1.drewN nq = w3 at *
                obtain ⟨lv, l1, l2, l3, l4, hbs⟩ := L1
                obtain ⟨la2, lc2, rfl⟩ := own_form l2
                obtain ⟨kk, u0, u1⟩ := l1.c2
                have fz : ∀ i, w3.frozen? ⟨w.heap.size, i, none⟩ = false := fun i => Blk.frozen l1 i
                have l2a := World.ownsRow.alloc l2 (.cells #[.pointer (some ⟨p, 0, none⟩)] 71)
                have l1a := l1.alloc (.cells #[.pointer (some ⟨p, 0, none⟩)] 71)
                have l3a := Lib.hid (l3.kept (Kept.ofBelow (below_all (o := .cells #[.pointer (some ⟨p, 0, none⟩)] 71) (Below.refl _ _)) []) (by simp))
                have s4a : SgAt (w3.alloc (.cells #[.pointer (some ⟨p, 0, none⟩)] 71)) ⟨p, ps, s⟩ := S3.out.below (below_all (Below.refl _ _))
                have S4A := Lib.hid s4a
                have hsep : Hid (∀ x ∈ ps, x ≠ w.heap.size ∧ (Value.slice la2 ss.length lc2).ownBlock ≠ some x ∧ x ∉ sgB ss) := Lib.hid (fun x hx => by
                  have h5 := hps2.out x hx
                  have h6 := hLlt.out
                  rw [hbs] at h6
                  refine ⟨fun e => ?_, fun e => ?_, fun e => ?_⟩
                  · have := h6 w.heap.size (by simp); omega
                  · have := h6 x (by simp only [List.mem_cons, List.mem_append, Option.mem_toList]; exact .inr (.inl e)); omega
                  · have := h6 x (by simp only [List.mem_cons, List.mem_append, Option.mem_toList]; exact .inr (.inr e)); omega)
                have HL4 := Lib.hid l4
                have HBS := Lib.hid hbs
                have hz3 := hnx3.out.size
                have hz4 := hnx.size
                clear l3 l4 s4a hbs l2
                generalize hN : ss.length = N at *
                have HNL := Lib.hid hN
                clear hN
                go_wp2_with (at_builtin; refine wpList_append_own_at _ rfl _ _ 68 rfl 0 71 i0 _ 1 8 Try.underlying68 hi hz0 hz1 hz2 rfl (by decide) _ _ _ rfl l2a ⟨w3.heap.size, 0, none⟩ 1 1 [.pointer (some ⟨p, 0, none⟩)] rfl rfl (news_ptr p rfl) (by simp [Value.oneCell']) (by unfold maxLen; omega) (by omega) (by omega) ?_; intro v5 w5 o5 g5 z7 at5; obtain ⟨va5, vc5, rfl⟩ := own_form o5; have S9 := l1a.grown g5 (own_ne l2a l1a (by decide)); obtain ⟨k9, s0, s1⟩ := S9.c2; have fz9 : ∀ i, w5.frozen? ⟨w.heap.size, i, none⟩ = false := fun i => Blk.frozen S9 i)
                have hn5 : N = ss.length := HNL.out.symm
                subst hn5
                obtain ⟨cs2, L6, K6, C6⟩ := LogAt.push (s := ⟨p, ps, s⟩) l1a l2a l3a.out HL4.out S4A.out hsep.out (by simpa [Sg.ptr] using o5) g5 at5
                rw [← HBS.out] at K6 C6
                have hB6 := Lib.hid (Kept.below (below_all (o := .cells #[.pointer (some ⟨p, 0, none⟩)] 71) hnx3.out) K6 HCS.out (by simp; omega))
                have hC6 := Lib.hid (fun x hx => (show w.heap.size ≤ x from by
                  rcases C6 x hx with h | h | h
                  · exact HCS.out x h
                  · exact Nat.le_trans hz4 (hps2.out x h)
                  · simp at h; omega))
                have HL6 := Lib.hid L6
                clear K6 C6 L6
                go_roundw
                case rel => exact ⟨k + 1, cs2, ss ++ [⟨p, ps, s⟩], by omega, by go_num, HL6.out, Lib.hid (hss2.out _ rfl), hB6.out, hC6.out, HS3⟩
                case measure => first | (simp [intOf]; done) | (simp [intOf]; omega)
        · have cL := Lib.hid (load5_no s.base s.next _ s.l _ F1.out HBK.out.1 HBK.out.2 hle)
          have he : Hid (gerr room D = lerr s.base s.next s.l) := Lib.hid (HGE.out.trans (by have := HSG.out; rw [if_pos hle] at this; exact this.symm))
          generalize lerr s.base s.next s.l = o at *
          have h6 : ((o : Int) != 0) = true := by simpa using hle
          have he3 : Hid (gerr room D ≠ 0) := Lib.hid (by rw [he.out]; exact hle)
          clear HSG hle
          go_wp2_with fail
          refine cL.out.use ?_
          intro w1 b1
          have hnx1 := below_any (Nat.le_refl _) hnx (below_any (Nat.le_refl _) B1.out b1)
          go_wp2_with fail
          go_ret2
          exact .inr ⟨he3.out, by rw [he.out]; rfl, hnx1⟩
      · have hkD : k = D.length := by omega
        have j1 : ¬ (k : Int) < (D.length : Int) := by omega
        have he : Hid (gerr room D = 0) := Lib.hid (by
          have := hsc.out
          rw [hkD, List.drop_length] at this
          rw [HGE.out, ← this]
          rfl)
        have hmd : Hid (ss.map Sg.d = D) := Lib.hid (by rw [hss.out, hkD, List.take_length])
        clear hkD hss hsc
        go_wp2_with fail
        go_ret2
        exact .inl ⟨he.out, w.heap.size, rfl, cs, ss, hL, hmd.out, hnx, hcs⟩
end Go.Proofs.Ytkfglnhapcceaaa
