import Derived.Test.YtkfglnhapcceaaaLogJ
import Derived.Test.YtkfglnhapcceaaaRnd
/-
  Layer 6: a log compacted: the walk.
-/
set_option linter.unusedVariables false
set_option linter.unusedSimpArgs false
namespace Go.Proofs.Ytkfglnhapcceaaa
open Go.RowKit Go.Shelf Go.Maps
attribute [local go_sem] Oper.semAt_some

set_option maxHeartbeats 8000000 in
set_option maxRecDepth 100000 in
theorem compact6 (g : Nat) (bs : List Nat) (room : Int) (ss : List Sg) (w : World) (h : LogAt w g bs room ss) (hne : ss ≠ []) (hl : ss.length ≤ 1000) (hr : ∀ s ∈ ss, s.d.l.length ≤ 1000 ∧ ∀ f ∈ s.d.l, RecBd f.r ∧ (Lit.int .i64 f.off).wf = true) :
    LCall 21 #[.pointer (some ⟨g, 0, none⟩)] w g bs (.int .i64 (cdone (ss.map Sg.d) 0).2.2) room (cdone (ss.map Sg.d) 0).1 := by
  refine LCall.intro fun R hR => ?_
  refine (callsIn_wide (n := 10)).1 ?_
  obtain ⟨i0, hinf, hz0, hz1, hz2⟩ := info_parts intInfo
  obtain ⟨lv, hV⟩ : ∃ lv, LogV w g lv bs room ss := h
  obtain ⟨la, lc, rfl⟩ := own_form hV.2.1
  obtain ⟨kg, c0, c1⟩ := hV.1.c2
  have HV := Lib.hid hV
  have HR := Lib.hid hr
  have hDl : (ss.map Sg.d).length = ss.length := List.length_map ..
  have HDL := Lib.hid hDl
  have hmm := @run_makeMap Try.prog
  have P4 : Below w.heap.size w ((((w.alloc (.cells #[.pointer (some ⟨g, 0, none⟩)] 32)).alloc (.map #[] 0)).alloc (.cells #[.map (some (w.heap.size + 1))] 85)).alloc (.cells #[.int .i64 0] 3)) := below_all (below_all (below_all (below_all (Below.refl _ _))))
  have c4 := (P4.cell (p := ⟨g, 1, none⟩) kg).trans c1
  clear hV hr hDl
  refine callsIn_of_wp_marks Try.func21 rfl trivial ?_ rfl
  simp only [Try.ntmps21, List.size_toArray, List.length_cons, List.length_nil, Nat.reduceAdd, Nat.reduceSub, Array.replicate_succ, Array.replicate_zero, List.push_toArray, List.append_toArray, List.nil_append, List.cons_append]
  gi_wp2_with (refine ⟨trivial, ?_⟩; gi_at_call 49; refine (callsIn_wide.2 (backwardS6 _ _ _ _)).mono ?_; rintro e w' ⟨rfl, rfl⟩)
  clear hmm c4 c0 c1
  refine wpIn_rangeFunc_raw (gf := 65) (lb := #[.pointer (some ⟨w.heap.size + 1 + 1 + 1 + 1, 0, none⟩)]) rfl (enters_of Try.func65 (by kernel_rfl) rfl) fun fn lp hlp => ?_
  obtain ⟨WA, hWA⟩ : ∃ WA, ((((w.alloc (.cells #[.pointer (some ⟨g, 0, none⟩)] 32)).alloc (.map #[] 0)).alloc (.cells #[.map (some (w.heap.size + 1))] 85)).alloc (.cells #[.int .i64 0] 3)).alloc (.cells #[.slice la ss.length lc] 68) = WA := ⟨_, rfl⟩
  have hz : WA.heap.size = w.heap.size + 5 := by rw [← hWA]; simp
  rw [hWA, hz]
  obtain ⟨D, hDd⟩ : ∃ D, ss.map Sg.d = D := ⟨_, rfl⟩
  obtain ⟨ps, hps⟩ : ∃ ps, ss.map Sg.p = ps := ⟨_, rfl⟩
  have hbslt := HV.out.lt
  have gA : Blk WA w.heap.size #[.pointer (some ⟨g, 0, none⟩)] 32 := by
    rw [← hWA]; exact ((((Blk.new w _ _).alloc _).alloc _).alloc _).alloc _
  have mA : TMap WA (w.heap.size + 1) [] := by
    rw [← hWA]
    have := World.ownsMap_made (H := Unit) (w := w.alloc (.cells #[.pointer (some ⟨g, 0, none⟩)] 32)) Try.prog 9 (plainElem Try.prog 4)
    rw [World.size_alloc] at this
    exact World.ownsMap.alloc (World.ownsMap.alloc (World.ownsMap.alloc this _) _) _
  have lA : Blk WA (w.heap.size + 2) #[.map (some (w.heap.size + 1))] 85 := by
    rw [← hWA]
    have := Blk.new ((w.alloc (.cells #[.pointer (some ⟨g, 0, none⟩)] 32)).alloc (.map #[] 0)) #[.map (some (w.heap.size + 1))] 85
    rw [World.size_alloc, World.size_alloc] at this
    exact (this.alloc _).alloc _
  have nA : Blk WA (w.heap.size + 3) #[.int .i64 0] 3 := by
    rw [← hWA]
    have := Blk.new (((w.alloc (.cells #[.pointer (some ⟨g, 0, none⟩)] 32)).alloc (.map #[] 0)).alloc (.cells #[.map (some (w.heap.size + 1))] 85)) #[.int .i64 0] 3
    rw [World.size_alloc, World.size_alloc, World.size_alloc] at this
    exact this.alloc _
  have sA : Blk WA (w.heap.size + 4) #[.slice la ss.length lc] 68 := by
    rw [← hWA]
    have := Blk.new ((((w.alloc (.cells #[.pointer (some ⟨g, 0, none⟩)] 32)).alloc (.map #[] 0)).alloc (.cells #[.map (some (w.heap.size + 1))] 85)).alloc (.cells #[.int .i64 0] 3)) #[.slice la ss.length lc] 68
    rw [World.size_alloc, World.size_alloc, World.size_alloc, World.size_alloc] at this
    exact this
  have bA : Below w.heap.size w WA := by
    rw [← hWA]; exact below_all P4
  clear P4
  obtain ⟨W0, hW0⟩ : ∃ W0, (WA.alloc (.deferred (some []))).alloc (.loop lp) = W0 := ⟨_, rfl⟩
  have b0 : Below WA.heap.size WA W0 := by rw [← hW0]; exact below_all (below_all (Below.refl _ _))
  have hz0 : W0.heap.size = w.heap.size + 7 := by rw [← hW0]; simp [hz]
  have dF : W0.heap[w.heap.size + 5]? = some (.deferred (some [])) := by
    rw [← hW0]
    refine (Below.heap_alloc _ _ _ (by simp; omega)).trans ?_
    have := World.alloc_heap_new WA (.deferred (some []))
    rwa [hz] at this
  have lF : W0.heap[w.heap.size + 6]? = some (.loop lp) := by
    rw [← hW0]
    have := World.alloc_heap_new (WA.alloc (.deferred (some []))) (.loop lp)
    rwa [World.size_alloc, hz] at this
  rw [hW0]
  have bW0 := below_any (Nat.le_refl _) bA b0
  have gB := gA.below b0
  have lB := lA.below b0
  have sB := sA.below b0
  have j0 : CJ w.heap.size W0 g (.slice la ss.length lc) room D ps bs lp D.length W0 := by
    refine ⟨?_, ?_, lF, ⟨bs, ss, HV.out.kept (Kept.ofBelow bW0 []) (by simp), by rw [cdone_end, List.append_nil, List.take_length, hDd], hps, fun x hx => .inl hx⟩, Kept.refl _ _⟩
    · rw [cdone_end]; exact mA.keptBy (Kept.ofBelow b0 []) (by simp)
    · rw [cdone_end]; exact nA.below b0
  have hB0 := Lib.hid bW0
  have HGB := Lib.hid gB
  have HLB := Lib.hid lB
  have HSB := Lib.hid sB
  have HDF := Lib.hid dF
  have HZ0 := Lib.hid hz0
  have HBL := Lib.hid hbslt
  have HDd := Lib.hid hDd
  have HPs := Lib.hid hps
  have hpl : ps.length = ss.length := by rw [← hps, List.length_map]
  have HPL := Lib.hid hpl
  have hdl : D.length = ss.length := by rw [← hDd, List.length_map]
  have HDL2 := Lib.hid hdl
  clear hWA hW0 hz gA mA lA nA sA bA b0 bW0 gB lB sB dF lF hz0 hbslt
  rw [hDd] at hR HDL
  rw [hdl.trans hpl.symm] at j0
  clear hDd hps hpl hdl
  clear WA
  refine (back1S_in (w.heap.size + 5 + 1) (w.heap.size + 1 + 1 + 1 + 1) (.slice la ss.length lc) ps (by rw [HPL.out]; omega) (fun k W => CJ w.heap.size W0 g (.slice la ss.length lc) room D ps bs lp k W) ?round ?read W0 j0).mono ?fin
  case read =>
    rintro k W j
    have h1 := HSB.out.keptBy j.kept (away_of HBL.out (by omega) (by omega) (by omega) (by omega))
    obtain ⟨cs, ss', l1, l2, l3, l4⟩ := j.log
    exact ⟨(h1.cell 0).trans rfl, by rw [← l3]; exact l1.ptrs⟩
  case round =>
    rintro i hi W j
    have hst : lp.state = .ready := by rw [hlp]
    have hpe : lp.pending = none := by rw [hlp]
    have e1 := congrArg Loop.assign hlp
    have e2 := congrArg Loop.body hlp
    have e3 := congrArg Loop.tmps hlp
    have e4 := congrArg Loop.params hlp
    dsimp only at e1 e2 e3 e4
    clear hlp
    refine yieldAt_raw j.loop (by rw [e4]; rfl) ?_
    rw [e1, e2, e3, e4]
    clear e1 e2 e3 e4
    -- the facts at this round's beginning
    have hK0 := j.kept
    have gW := HGB.out.keptBy hK0 (away_of HBL.out (by omega) (by omega) (by omega) (by omega))
    have lW := HLB.out.keptBy hK0 (away_of HBL.out (by omega) (by omega) (by omega) (by omega))
    have hz7 : w.heap.size + 7 ≤ W.heap.size := by have := hK0.size; rw [HZ0.out] at this; exact this
    obtain ⟨cs, ss', hL, hd', hp', hcs⟩ := j.log
    have mW := j.map
    have nW := j.nbox
    have pW := j.loop
    have hD' : D.length = ss.length := HDL2.out
    have hi2 : i < D.length := by rw [HPL.out] at hi; omega
    have hmem : D[i] ∈ ss.map Sg.d := by rw [HDd.out]; exact List.getElem_mem hi2
    obtain ⟨s9, hs9, he9⟩ := List.mem_map.1 hmem
    obtain ⟨hl1, hl2⟩ := HR.out _ hs9
    rw [he9] at hl1 hl2
    have hcl := cdone_len' D (k := i + 1) hi2
    have hstep := cdone_step D hi2
    have hbd := cdone_bd' D (M := 1000) (fun s hs => by
      rw [← HDd.out] at hs
      obtain ⟨x, hx, rfl⟩ := List.mem_map.1 hs
      exact (HR.out x hx).1) (k := i + 1) hi2
    obtain ⟨A, s, B, rfl, hsd, hsp, hA, hB⟩ := cj_split hd' hp' hi2 hi
    rw [← hsd] at hl1 hl2 hstep
    rw [← hsp]
    generalize cdone D (i + 1) = C at *
    obtain ⟨C1, later, n⟩ := C
    dsimp only at mW nW hcl hbd hB hd'
    have hSg : SegAt W s.p s.bs s.d.base s.d.next s.d.l := hL.2.2.1.1 s (by simp)
    have hW6 : w.heap.size + 6 < W.heap.size := by omega
    have HL2 := Lib.hid hl2
    have HSTEP := Lib.hid hstep
    have HCS := Lib.hid hcs
    have HCLT := Lib.hid hL.lt
    have HA := Lib.hid hA
    have HB := Lib.hid hB
    have HP := Lib.hid hp'
    have HCL := Lib.hid hcl
    have HD' := Lib.hid hD'
    clear hmem hs9 he9 hl2 hd' hstep hcs hA hB hp' hsd hsp hcl hD'
    -- the assignment and the round's beginning
    have aL : (W.alloc (.cells #[.int .i64 i] 3)).heap[w.heap.size + 6]? = some (.loop lp) := (Below.heap_alloc _ _ _ hW6).trans pW
    have hbr := run_beginRound (P := Try.prog) aL hst
    have KA : Kept [w.heap.size + 6] W ((W.alloc (.cells #[.int .i64 i] 3)).putObj (w.heap.size + 6) (.loop { lp with state := .busy })) := ((Kept.ofBelow (below_all (o := .cells #[.int .i64 i] 3) (Below.refl _ _)) [w.heap.size + 6])).trans (kept_put _) (fun x hx => .inl hx)
    have iB : Blk ((W.alloc (.cells #[.int .i64 i] 3)).putObj (w.heap.size + 6) (.loop { lp with state := .busy })) W.heap.size #[.int .i64 i] 3 := (Blk.new W _ _).keptBy (kept_put _) (by simp; omega)
    have lpB : ((W.alloc (.cells #[.int .i64 i] 3)).putObj (w.heap.size + 6) (.loop { lp with state := .busy })).heap[w.heap.size + 6]? = some (.loop { lp with state := .busy }) := World.putObj_heap_same (by simp; omega)
    have zB : ((W.alloc (.cells #[.int .i64 i] 3)).putObj (w.heap.size + 6) (.loop { lp with state := .busy })).heap.size = W.heap.size + 1 := by simp [World.putObj]
    have Hbr := Lib.hid hbr
    have HKA := Lib.hid KA
    have HIB := Lib.hid iB
    have HLPB := Lib.hid lpB
    have HZB := Lib.hid zB
    clear hbr KA iB lpB zB aL j j0
    gi_wp2
    refine ⟨_, Hbr.out, ?_⟩
    obtain ⟨Wb, hWb⟩ : ∃ Wb, (W.alloc (.cells #[.int .i64 i] 3)).putObj (w.heap.size + 6) (.loop { lp with state := .busy }) = Wb := ⟨_, rfl⟩
    rw [hWb] at HKA HIB HLPB HZB
    rw [show w.heap.size + 5 + 1 = w.heap.size + 6 from rfl, hWb]
    clear hWb Hbr
    have gB := gW.keptBy HKA.out (by simp)
    have lB := lW.keptBy HKA.out (by simp)
    have nB := nW.keptBy HKA.out (by simp)
    have mB := mW.keptBy HKA.out (by simp)
    have hcs6 : ∀ x ∈ cs, x ∉ [w.heap.size + 6] := fun x hx => by
      simp only [List.mem_singleton]
      rcases HCS.out x hx with h | h
      · have := HBL.out _ h; omega
      · have := HZ0.out; omega
    have LB := hL.kept HKA.out hcs6
    have sB := SegAt.kept hSg HKA.out (fun x hx => hcs6 x (by rw [hL.2.2.2.2]; simp only [List.mem_cons, List.mem_append, sgB_mid]; exact .inr (.inr (.inr (.inl hx)))))
    have zb := HZB.out
    have cA := Lib.hid (all5 s.p s.bs s.d.base s.d.next s.d.l (Wb.alloc (.cells #[.slice none 0 0] 59)) (sB.below (below_all (Below.refl _ _))) (by omega))
    have HK0 := Lib.hid hK0
    clear hSg hL gW lW nW mW pW hK0
    gi_wp2_with (first | (refine ⟨trivial, ?_⟩; gi_at_call 51; refine (CallsIn.inRound _ (callsIn_wide.2 cA.out)).mono ?_; rintro e w2 ⟨v2, rfl, o2, b2⟩; obtain ⟨va, vc, rfl⟩ := own_form o2) | (refine ⟨trivial, ?_⟩; gi_at_call 50; refine (CallsIn.inRound _ (callsIn_wide.2 (backwardF6 _ _ _ _))).mono ?_; rintro e w3 ⟨rfl, rfl⟩))
    have bk : Below Wb.heap.size Wb w2 := below_any (Nat.le_refl _) (below_all (o := .cells #[.slice none 0 0] 59) (Below.refl _ _)) b2
    have kB : Blk w2 Wb.heap.size #[.slice none 0 0] 59 := (Blk.new Wb _ _).below b2
    have zk : Wb.heap.size + 1 ≤ w2.heap.size := by have := b2.size; simpa using this
    obtain ⟨Wq, hWq⟩ : ∃ Wq, w2.alloc (.cells #[.slice va s.d.l.length vc] 24) = Wq := ⟨_, rfl⟩
    have bq : Below Wb.heap.size Wb Wq := by rw [← hWq]; exact below_all bk
    have zq : Wq.heap.size = w2.heap.size + 1 := by rw [← hWq]; simp
    have qB : Blk Wq w2.heap.size #[.slice va s.d.l.length vc] 24 := by rw [← hWq]; exact Blk.new _ _ _
    have kB2 : Blk Wq (W.heap.size + 1) #[.slice none 0 0] 59 := by rw [← zb, ← hWq]; exact kB.alloc _
    have FQ : FndsIn Wq (.slice va s.d.l.length vc) s.d.l := by rw [← hWq]; exact (fnds_own o2).alloc _
    have hvq : ∀ b, (Value.slice va s.d.l.length vc).ownBlock = some b → Wb.heap.size < b ∧ b < w2.heap.size := fun b hb => by have := o2.lt b hb; simp at this; omega
    rw [hWq]
    have hloopq : Wq.heap[w.heap.size + 6]? = some (.loop { lp with state := .busy }) := (bq.block _ (by omega)).trans HLPB.out
    refine wpIn_rangeFunc_rawN (l₀ := w.heap.size + 6) hloopq (gf := 66) (lb := #[.pointer (some ⟨w2.heap.size, 0, none⟩)]) rfl (enters_of Try.func66 (by kernel_rfl) rfl) fun fn2 lp2 hlp2 => ?_
    obtain ⟨W1, hW1⟩ : ∃ W1, Wq.alloc (.loop lp2) = W1 := ⟨_, rfl⟩
    have b1 : Below Wq.heap.size Wq W1 := by rw [← hW1]; exact below_all (Below.refl _ _)
    have z1 : W1.heap.size = w2.heap.size + 2 := by rw [← hW1]; simp [zq]
    have r1 : W1.heap[w2.heap.size + 1]? = some (.loop lp2) := by rw [← hW1, ← zq]; exact World.alloc_heap_new _ _
    rw [hW1, zq]
    have bB1 := below_any (Nat.le_refl _) bq b1
    have g1 := gB.below bB1
    have l1 := lB.below bB1
    have i1 := HIB.out.below bB1
    have n1 := nB.below bB1
    have L1 := LB.kept (Kept.ofBelow bB1 []) (by simp)
    have F1 := FQ.below b1
    have q1 := qB.below b1
    have lp1 := (b1.block _ (by omega)).trans hloopq
    have ci0 : CI W1 (w.heap.size + 1) (W.heap.size + 1) (w2.heap.size + 1) C1.isEmpty later s.d.l lp2 s.d.l.length W1 := by
      refine ⟨?_, ⟨_, kB2.below b1, ?_⟩, r1, Kept.refl _ _⟩
      · rw [cAt_end]; exact mB.keptBy (Kept.ofBelow bB1 []) (by simp)
      · rw [cAt_end]; exact World.ownsRow_nil _ _ _ _
    have GG1 := Lib.hid L1.1
    have ss1 : SegAt W1 s.p s.bs s.d.base s.d.next s.d.l := L1.2.2.1.1 s (by simp)
    have SS1 := Lib.hid ss1
    clear ss1
    have G1 := Lib.hid g1
    have LL1 := Lib.hid l1
    have I1 := Lib.hid i1
    have N1 := Lib.hid n1
    have LV1 := Lib.hid L1
    have FF1 := Lib.hid F1
    have Q1 := Lib.hid q1
    have LP1 := Lib.hid lp1
    have BB1 := Lib.hid bB1
    have HVQ := Lib.hid hvq
    clear g1 l1 i1 n1 L1 F1 q1 lp1 bB1 hvq hW1 hWq b1 bq bk b2 o2 FQ kB2 qB kB hloopq r1 gB lB nB mB LB sB cA
    refine (callsIn_wide.2 (callsIn_wide.1 (back1F_in (w2.heap.size + 1) w2.heap.size (.slice va s.d.l.length vc) s.d.l (by omega) (fun m W9 => CI W1 (w.heap.size + 1) (W.heap.size + 1) (w2.heap.size + 1) C1.isEmpty later s.d.l lp2 m W9) ?round2 ?read2 W1 ci0))).mono ?fin2
    case read2 =>
      rintro k W' j'
      have h1 := Q1.out.keptBy j'.kept (by simp; omega)
      refine ⟨(h1.cell 0).trans rfl, FF1.out.kept j'.kept (fun b hb hm => ?_)⟩
      have := HVQ.out b hb
      simp only [List.mem_cons, List.not_mem_nil, or_false] at hm
      omega
    case round2 =>
      rintro m hm Wr j'
      have hst2 : lp2.state = .ready := by rw [hlp2]
      have hpe2 : lp2.pending = none := by rw [hlp2]
      have e1 := congrArg Loop.assign hlp2
      have e2 := congrArg Loop.body hlp2
      have e3 := congrArg Loop.tmps hlp2
      have e4 := congrArg Loop.params hlp2
      dsimp only at e1 e2 e3 e4
      clear hlp2
      refine yieldAt_raw j'.loop (by rw [e4]; rfl) ?_
      rw [e1, e2, e3, e4]
      clear e1 e2 e3 e4
      obtain ⟨hbdf, hwf⟩ := HL2.out _ (List.getElem_mem hm)
      have hlen := cAt_len' C1.isEmpty later s.d.l (m := m + 1) hm
      have hst := Lib.hid (cAt_step C1.isEmpty later s.d.l hm)
      have mr := j'.map
      have kr := j'.keep
      have lr := j'.loop
      have HKR := Lib.hid j'.kept
      have hzr : W1.heap.size ≤ Wr.heap.size := j'.kept.size
      clear j' ci0
      generalize cAt C1.isEmpty later s.d.l (m + 1) = st at *
      obtain ⟨ks, keys⟩ := st
      dsimp only at mr kr hlen
      generalize s.d.l[m] = f at *
      obtain ⟨off, hk, key, tb, val⟩ := f
      dsimp only at hbdf hwf
      unfold Fnd.val
      dsimp only
      obtain ⟨O, hO⟩ : ∃ O, Obj.cells #[.int .i64 off, .bool hk, .string (S key), .bool tb, .string (S val)] 31 = O := ⟨_, rfl⟩
      have aL : (Wr.alloc O).heap[w2.heap.size + 1]? = some (.loop lp2) := (Below.heap_alloc _ _ _ (by omega)).trans lr
      have hbr := run_beginRound (P := Try.prog) aL hst2
      obtain ⟨Wd, hWd⟩ : ∃ Wd, (Wr.alloc O).putObj (w2.heap.size + 1) (.loop { lp2 with state := .busy }) = Wd := ⟨_, rfl⟩
      have KD : Kept [w2.heap.size + 1] Wr Wd := by rw [← hWd]; exact ((Kept.ofBelow (below_all (o := O) (Below.refl _ _)) [w2.heap.size + 1])).trans (kept_put _) (fun x hx => .inl hx)
      have tD : Blk Wd Wr.heap.size #[.int .i64 off, .bool hk, .string (S key), .bool tb, .string (S val)] 31 := by rw [← hWd, ← hO]; exact (Blk.new Wr _ _).keptBy (kept_put _) (by simp; omega)
      have lpD : Wd.heap[w2.heap.size + 1]? = some (.loop { lp2 with state := .busy }) := by rw [← hWd]; exact World.putObj_heap_same (by simp; omega)
      have zD : Wd.heap.size = Wr.heap.size + 1 := by rw [← hWd]; simp [World.putObj]
      rw [hWd] at hbr
      have Hbr := Lib.hid hbr
      clear hbr aL hWd lr
      subst hO
      gi_wp2
      refine ⟨_, Hbr.out, ?_⟩
      clear Hbr
      -- what the body reads
      have KE : Kept [w.heap.size + 1, (W.heap.size + 1), w2.heap.size + 1] W1 Wd := HKR.out.trans KD (fun x hx => .inl (by simp at hx; simp [hx]))
      have gD := (G1.out.keptBy KE (by simp; omega)).c1
      have lD := (LL1.out.keptBy KE (by simp; omega)).c1
      have iD := (I1.out.keptBy KE (by simp; omega)).c1
      have cD' := (GG1.out.keptBy KE (by simp; omega)).c2
      have mD := mr.keptBy KD (by simp; omega)
      obtain ⟨kv, kb, ko⟩ := kr
      obtain ⟨ka, kc, rfl⟩ := own_form ko
      have kD := kb.keptBy KD (by simp; omega)
      have koD := own_keptBy ko KD (fun b hb hx => by
        simp only [List.mem_singleton] at hx
        have := (ko.lt b hb).1
        omega)
      have kD1 := kD.c1
      have kDf := fun i => kD.frozen i
      obtain ⟨zt, t0, t1, t2, t3, t4⟩ := Blk.five tD
      have hlk := fun q => tmap_look (mD.keptBy (Kept.ofBelow (belowN (Below.refl _ _) q) []) (by simp)) key (by have := hbdf.1; exact this)
      have q1 : IntKind.i64.wrap ((ss.length : Int) - 1) = (ss.length : Int) - 1 := by rw [IntKind.wrap_i64]; omega
      have hopn : ((i : Int) == (ss.length : Int) - 1) = C1.isEmpty := by
        have h1 := HCL.out
        have h2 := HD'.out
        have h3 : i < ss.length := by omega
        cases C1 with
        | nil => simp at h1; simp; omega
        | cons x C1 => simp at h1; simp; omega
      have hend : ∀ W3, TMap W3 (w.heap.size + 1) (cAt C1.isEmpty later s.d.l m).2 → (∃ kv, Blk W3 (W.heap.size + 1) #[kv] 59 ∧ W3.ownsRow W1.heap.size 3 1 kv (cAt C1.isEmpty later s.d.l m).1.length ((cAt C1.isEmpty later s.d.l m).1.map (Value.int .i64))) →
          W3.heap[w2.heap.size + 1]? = some (.loop { lp2 with state := .busy }) → Kept [w.heap.size + 1, (W.heap.size + 1), w2.heap.size + 1] W1 W3 →
          roundPost Try.prog (w2.heap.size + 1) (fun e W' => e = Ending.returned (Value.bool true) ∧ CI W1 (w.heap.size + 1) (W.heap.size + 1) (w2.heap.size + 1) C1.isEmpty later s.d.l lp2 m W') .normal { tmps := #[], defers := [] } W3 := by
        intro W3 m3 k3 l3 K3
        have h4 := run_endRound (P := Try.prog) none l3
        have elp : ({ ({ lp2 with state := .busy } : Loop) with state := if (none : Option Code).isNone then .ready else .done, pending := none } : Loop) = lp2 := by
          cases lp2; simp at hst2 hpe2; subst hst2; subst hpe2; rfl
        rw [elp] at h4
        obtain ⟨kv, k4, k5⟩ := k3
        have hz3 := K3.size
        have KP : Kept [w2.heap.size + 1] W3 (W3.putObj (w2.heap.size + 1) (.loop lp2)) := kept_put _
        refine ⟨_, _, h4, rfl, ⟨m3.keptBy KP (by simp; omega), ⟨kv, k4.keptBy KP (by simp; omega), own_keptBy k5 KP (fun b hb hx => by
          simp only [List.mem_singleton] at hx
          have := (k5.lt b hb).1
          omega)⟩, World.putObj_heap_same (by omega), K3.trans KP (fun x hx => .inl (by simp at hx; simp [hx]))⟩⟩
      have HEND := Lib.hid hend
      have HKO := Lib.hid koD
      have HKE := Lib.hid KE
      have HMD := Lib.hid mD
      have HKD := Lib.hid kD
      have HTD := Lib.hid tD
      have hkl : key.length ≤ maxLen := hbdf.1
      have hky := Lib.hid (keyOf_S hkl)
      have hmix : Try.prog.follows .mixedOrders = true := by kernel_rfl
      have hbd2 := hbd.2.2
      have hDss := HD'.out
      have HLPD := Lib.hid lpD
      have hzd : W1.heap.size ≤ Wd.heap.size := KE.size
      clear hend hst2 hpe2 KE mD koD mr kb ko tD lpD kD KD
      cases hk with
      | false =>
        have hs2 : Hid (cAt C1.isEmpty later s.d.l m = (ks ++ [off], keys)) := Lib.hid (by rw [hst.out]; simp [cstep])
        gi_wp2
        refine wpIn_region_quiet_round hmix (by kernel_rfl) (by kernel_rfl) ?_
        repeat (gi_big_quiet_step (fail))
        refine wpQuietIn_nil ?_
        intro _ hw'
        obtain ⟨nq, hw''⟩ := hw'
        subst hw''
        have bE : Below Wd.heap.size Wd (Wd.drewN nq) := belowN (Below.refl _ _) nq
        obtain ⟨We, hWe⟩ : ∃ We, Wd.drewN nq = We := ⟨_, rfl⟩
        rw [hWe] at bE ⊢
        clear hWe gD lD iD cD' kD1 kDf t0 t1 t2 t3 t4 hlk q1 hopn
        have kE := HKD.out.below bE
        have tE := HTD.out.below bE
        have KE := HKE.out.bel bE
        have mE := HMD.out.keptBy (Kept.ofBelow bE []) (by simp)
        have lpE := (bE.block _ (Array.getElem?_eq_some_iff.1 HLPD.out).1).trans HLPD.out
        have koE := own_keptBy HKO.out (Kept.ofBelow bE []) (away_nil _)
        have kE1 := kE.c1
        have kEf := fun i => kE.frozen i
        obtain ⟨zt2, s0, s1, s2, s3, s4⟩ := Blk.five tE
        have hze : W1.heap.size ≤ We.heap.size := KE.size
        have HTE := Lib.hid tE
        have HKE2 := Lib.hid KE
        have HME := Lib.hid mE
        have HLPE := Lib.hid lpE
        have HKB := Lib.hid kE
        clear tE KE mE lpE kE
        have koA := World.ownsRow.alloc koE (.cells #[.int .i64 off] 3)
        have kbA := Lib.hid (HKB.out.alloc (.cells #[.int .i64 off] 3))
        have tA := Lib.hid (HTE.out.alloc (.cells #[.int .i64 off] 3))
        have KA2 := Lib.hid (HKE2.out.bel (below_all (o := .cells #[.int .i64 off] 3) (Below.refl _ _)))
        gi_wp2_with (gi_at_builtin; refine wpListIn_append_own_at _ rfl _ _ 59 rfl W1.heap.size 3 i0 (.int .i64 0) 1 8 Try.underlying59 hinf hz0 hz1 hz2 rfl (by decide) _ _ _ rfl koA ⟨We.heap.size, 0, none⟩ 1 1 [.int .i64 off] rfl rfl (cell_one_new _ _ _) (by simp [Value.oneCell']) (by unfold maxLen; omega) (by omega) (by simp; omega) ?_)
        intro v' w5 o5 g5 z5 at5
        obtain ⟨va5, vc5, rfl⟩ := own_form o5
        have S5 := kbA.out.grown g5 (own_ne koA kbA.out (by decide))
        have T5 := tA.out.grown g5 (own_ne koA tA.out (by decide))
        have K5 := (KA2.out.trans (Kept.ofGrown g5) (fun x hx => by simp only [Option.mem_toList] at hx; exact .inr ((koE.lt x hx).1))).trans (kept_set (w := w5) (b := W.heap.size + 1) 0 (.slice va5 (ks.length + 1) vc5)) (fun x hx => .inl (by simp at hx; simp [hx]))
        have S51 := S5.c1
        have S5f := fun i => S5.frozen i
        have T6 := T5.setOther (a := ⟨W.heap.size + 1, 0, none⟩) (by simp; omega) (.slice va5 (ks.length + 1) vc5)
        obtain ⟨zt6, x0, x1, x2, x3, x4⟩ := Blk.five T6
        have L6 := (LL1.out.keptBy K5 (by simp; omega)).c1
        have HK5 := Lib.hid K5
        have HS5 := Lib.hid S5
        have HG5 := Lib.hid g5
        have HO5 := Lib.hid o5
        clear T6 T5 K5 S5 g5 o5 z5 at5
        gi_wp2
        have g5 := HG5.out
        have S5 := HS5.out
        have o5 := HO5.out
        have hz5 := g5.size
        have S6 := S5.set 0 (.slice va5 (ks.length + 1) vc5)
        have o6 := own_keptBy o5 (kept_set (w := w5) (b := W.heap.size + 1) 0 (.slice va5 (ks.length + 1) vc5)) (fun b hb hx => by
          simp only [List.mem_singleton] at hx
          have := (o5.lt b hb).1
          omega)
        have lp6 : (w5.setCell ⟨W.heap.size + 1, 0, none⟩ (.slice va5 (ks.length + 1) vc5)).heap[w2.heap.size + 1]? = some (.loop { lp2 with state := .busy }) := by
          refine ((kept_set (w := w5) (b := W.heap.size + 1) 0 (.slice va5 (ks.length + 1) vc5)).block _ (by simp at hz5; omega) (by simp; omega)).trans ?_
          refine (g5.block _ (by simp; omega) (fun e => by have := (koE.lt _ e.symm).1; omega)).trans ?_
          exact (Below.heap_alloc _ _ _ (by omega)).trans HLPE.out
        have m6 := ((HME.out.keptBy (Kept.ofBelow (below_all (o := .cells #[.int .i64 off] 3) (Below.refl _ _)) []) (by simp)).keptBy (Kept.ofGrown g5) (fun hx => by simp only [Option.mem_toList] at hx; have := (koE.lt _ hx).1; omega)).keptBy (kept_set (w := w5) (b := W.heap.size + 1) 0 (.slice va5 (ks.length + 1) vc5)) (by simp; omega)
        exact HEND.out _ (by rw [hs2.out]; exact m6) ⟨_, S6, by rw [hs2.out, List.length_append, List.map_append, z1]; exact o6⟩ lp6 HK5.out
      | true =>
        by_cases hin : key ∈ keys
        · simp only [decide_eq_true hin] at hlk
          cases ho : C1.isEmpty with
          | true =>
            rw [ho] at hopn HEND hst
            have hs2 : Hid (cAt true later s.d.l m = (ks ++ [off], keys ++ [key])) := Lib.hid (by rw [hst.out]; simp [cstep])
            gi_wp2
            refine wpIn_region_quiet_round hmix (by kernel_rfl) (by kernel_rfl) ?_
            repeat (gi_big_quiet_step (fail))
            refine wpQuietIn_nil ?_
            intro _ hw'
            obtain ⟨nq, hw''⟩ := hw'
            subst hw''
            have bE : Below Wd.heap.size Wd (Wd.drewN nq) := belowN (Below.refl _ _) nq
            obtain ⟨We, hWe⟩ : ∃ We, Wd.drewN nq = We := ⟨_, rfl⟩
            rw [hWe] at bE ⊢
            clear hWe gD lD iD cD' kD1 kDf t0 t1 t2 t3 t4 hlk q1 hopn
            have kE := HKD.out.below bE
            have tE := HTD.out.below bE
            have KE := HKE.out.bel bE
            have mE := HMD.out.keptBy (Kept.ofBelow bE []) (by simp)
            have lpE := (bE.block _ (Array.getElem?_eq_some_iff.1 HLPD.out).1).trans HLPD.out
            have koE := own_keptBy HKO.out (Kept.ofBelow bE []) (away_nil _)
            have kE1 := kE.c1
            have kEf := fun i => kE.frozen i
            obtain ⟨zt2, s0, s1, s2, s3, s4⟩ := Blk.five tE
            have hze : W1.heap.size ≤ We.heap.size := KE.size
            have HTE := Lib.hid tE
            have HKE2 := Lib.hid KE
            have HME := Lib.hid mE
            have HLPE := Lib.hid lpE
            have HKB := Lib.hid kE
            clear tE KE mE lpE kE
            have koA := World.ownsRow.alloc koE (.cells #[.int .i64 off] 3)
            have kbA := Lib.hid (HKB.out.alloc (.cells #[.int .i64 off] 3))
            have tA := Lib.hid (HTE.out.alloc (.cells #[.int .i64 off] 3))
            have KA2 := Lib.hid (HKE2.out.bel (below_all (o := .cells #[.int .i64 off] 3) (Below.refl _ _)))
            gi_wp2_with (gi_at_builtin; refine wpListIn_append_own_at _ rfl _ _ 59 rfl W1.heap.size 3 i0 (.int .i64 0) 1 8 Try.underlying59 hinf hz0 hz1 hz2 rfl (by decide) _ _ _ rfl koA ⟨We.heap.size, 0, none⟩ 1 1 [.int .i64 off] rfl rfl (cell_one_new _ _ _) (by simp [Value.oneCell']) (by unfold maxLen; omega) (by omega) (by simp; omega) ?_)
            intro v' w5 o5 g5 z5 at5
            obtain ⟨va5, vc5, rfl⟩ := own_form o5
            have S5 := kbA.out.grown g5 (own_ne koA kbA.out (by decide))
            have T5 := tA.out.grown g5 (own_ne koA tA.out (by decide))
            have K5 := (KA2.out.trans (Kept.ofGrown g5) (fun x hx => by simp only [Option.mem_toList] at hx; exact .inr ((koE.lt x hx).1))).trans (kept_set (w := w5) (b := W.heap.size + 1) 0 (.slice va5 (ks.length + 1) vc5)) (fun x hx => .inl (by simp at hx; simp [hx]))
            have S51 := S5.c1
            have S5f := fun i => S5.frozen i
            have T6 := T5.setOther (a := ⟨W.heap.size + 1, 0, none⟩) (by simp; omega) (.slice va5 (ks.length + 1) vc5)
            obtain ⟨zt6, x0, x1, x2, x3, x4⟩ := Blk.five T6
            have L6 := (LL1.out.keptBy K5 (by simp; omega)).c1
            have HK5 := Lib.hid K5
            have HS5 := Lib.hid S5
            have HG5 := Lib.hid g5
            have HO5 := Lib.hid o5
            have hz5 := g5.size
            have S6 := S5.set 0 (.slice va5 (ks.length + 1) vc5)
            have o6 := own_keptBy o5 (kept_set (w := w5) (b := W.heap.size + 1) 0 (.slice va5 (ks.length + 1) vc5)) (fun b hb hx => by
              simp only [List.mem_singleton] at hx
              have := (o5.lt b hb).1
              omega)
            have lp6 : (w5.setCell ⟨W.heap.size + 1, 0, none⟩ (.slice va5 (ks.length + 1) vc5)).heap[w2.heap.size + 1]? = some (.loop { lp2 with state := .busy }) := by
              refine ((kept_set (w := w5) (b := W.heap.size + 1) 0 (.slice va5 (ks.length + 1) vc5)).block _ (by simp at hz5; omega) (by simp; omega)).trans ?_
              refine (g5.block _ (by simp; omega) (fun e => by have := (koE.lt _ e.symm).1; omega)).trans ?_
              exact (Below.heap_alloc _ _ _ (by omega)).trans HLPE.out
            have m6 := ((HME.out.keptBy (Kept.ofBelow (below_all (o := .cells #[.int .i64 off] 3) (Below.refl _ _)) []) (by simp)).keptBy (Kept.ofGrown g5) (fun hx => by simp only [Option.mem_toList] at hx; have := (koE.lt _ hx).1; omega)).keptBy (kept_set (w := w5) (b := W.heap.size + 1) 0 (.slice va5 (ks.length + 1) vc5)) (by simp; omega)
            have HS6 := Lib.hid S6
            have HO6 := Lib.hid o6
            have HLP6 := Lib.hid lp6
            have MM := m6
            unfold TMap at MM
            clear T6 T5 K5 S5 g5 o5 z5 at5 S6 o6 lp6 m6
            gi_wp2_with (gi_at_mapUpdate; refine wpListIn_mapUpdate_own _ rfl _ _ _ 85 rfl 9 4 keyT Try.underlying85 _ (w.heap.size + 1) keys.length _ rfl MM (by unfold maxLen; omega) _ _ _ rfl rfl hky.out _ [] (plainElem_bool Try.underlying4 true) ?_)
            intro w7 own7 g7
            have m7 : TMap w7 (w.heap.size + 1) (keys ++ [key]) := by
              unfold TMap
              rw [mapT_snoc, List.length_append]
              exact own7
            have k7 := Kept.ofGrown g7
            simp only [Option.toList_some] at k7
            clear own7 g7 MM
            gi_wp2
            refine HEND.out _ (by rw [hs2.out]; exact m7) ⟨_, HS6.out.keptBy k7 (by simp; omega), ?_⟩ ?_ (HK5.out.trans k7 (fun x hx => .inl (by simp at hx; simp [hx])))
            · rw [hs2.out, List.length_append, List.map_append, z1]
              exact own_keptBy HO6.out k7 (fun b hb hx => by
                simp only [List.mem_singleton] at hx
                have := (HO6.out.lt b hb).1
                omega)
            · exact (k7.block _ (Array.getElem?_eq_some_iff.1 HLP6.out).1 (by simp; omega)).trans HLP6.out
          | false =>
            rw [ho] at hopn HEND hst
            have hs2 : Hid (cAt false later s.d.l m = (ks, keys ++ [key])) := Lib.hid (by rw [hst.out]; simp [cstep, hin])
            gi_wp2
            refine wpIn_region_quiet_round hmix (by kernel_rfl) (by kernel_rfl) ?_
            repeat (gi_big_quiet_step (fail))
            refine wpQuietIn_nil ?_
            intro _ hw'
            obtain ⟨nq, hw''⟩ := hw'
            subst hw''
            have bE : Below Wd.heap.size Wd (Wd.drewN nq) := belowN (Below.refl _ _) nq
            obtain ⟨We, hWe⟩ : ∃ We, Wd.drewN nq = We := ⟨_, rfl⟩
            rw [hWe] at bE ⊢
            clear hWe gD lD iD cD' kD1 kDf t0 t1 t2 t3 t4 hlk q1 hopn
            have kE := HKD.out.below bE
            have tE := HTD.out.below bE
            have KE := HKE.out.bel bE
            have mE := HMD.out.keptBy (Kept.ofBelow bE []) (by simp)
            have lpE := (bE.block _ (Array.getElem?_eq_some_iff.1 HLPD.out).1).trans HLPD.out
            have koE := own_keptBy HKO.out (Kept.ofBelow bE []) (away_nil _)
            have kE1 := kE.c1
            have kEf := fun i => kE.frozen i
            obtain ⟨zt2, s0, s1, s2, s3, s4⟩ := Blk.five tE
            have hze : W1.heap.size ≤ We.heap.size := KE.size
            have HTE := Lib.hid tE
            have HKE2 := Lib.hid KE
            have HME := Lib.hid mE
            have HLPE := Lib.hid lpE
            have HKB := Lib.hid kE
            clear tE KE mE lpE kE
            have LE := (LL1.out.keptBy HKE2.out (by simp; omega)).c1
            have MM := HME.out
            unfold TMap at MM
            have HO6 := Lib.hid koE
            clear koE kE1 kEf
            gi_wp2_with (gi_at_mapUpdate; refine wpListIn_mapUpdate_own _ rfl _ _ _ 85 rfl 9 4 keyT Try.underlying85 _ (w.heap.size + 1) keys.length _ rfl MM (by unfold maxLen; omega) _ _ _ rfl rfl hky.out _ [] (plainElem_bool Try.underlying4 true) ?_)
            intro w7 own7 g7
            have m7 : TMap w7 (w.heap.size + 1) (keys ++ [key]) := by
              unfold TMap
              rw [mapT_snoc, List.length_append]
              exact own7
            have k7 := Kept.ofGrown g7
            simp only [Option.toList_some] at k7
            clear own7 g7 MM
            gi_wp2
            refine HEND.out _ (by rw [hs2.out]; exact m7) ⟨_, HKB.out.keptBy k7 (by simp; omega), ?_⟩ ?_ (HKE2.out.trans k7 (fun x hx => .inl (by simp at hx; simp [hx])))
            · rw [hs2.out]
              exact own_keptBy HO6.out k7 (fun b hb hx => by
                simp only [List.mem_singleton] at hx
                have := (HO6.out.lt b hb).1
                omega)
            · exact (k7.block _ (Array.getElem?_eq_some_iff.1 HLPE.out).1 (by simp; omega)).trans HLPE.out
        · simp only [decide_eq_false hin] at hlk
          have hs2 : Hid (cAt C1.isEmpty later s.d.l m = (ks ++ [off], keys ++ [key])) := Lib.hid (by rw [hst.out]; simp [cstep, hin])
          gi_wp2
          refine wpIn_region_quiet_round hmix (by kernel_rfl) (by kernel_rfl) ?_
          repeat (gi_big_quiet_step (fail))
          refine wpQuietIn_nil ?_
          intro _ hw'
          obtain ⟨nq, hw''⟩ := hw'
          subst hw''
          have bE : Below Wd.heap.size Wd (Wd.drewN nq) := belowN (Below.refl _ _) nq
          obtain ⟨We, hWe⟩ : ∃ We, Wd.drewN nq = We := ⟨_, rfl⟩
          rw [hWe] at bE ⊢
          clear hWe gD lD iD cD' kD1 kDf t0 t1 t2 t3 t4 hlk q1 hopn
          have kE := HKD.out.below bE
          have tE := HTD.out.below bE
          have KE := HKE.out.bel bE
          have mE := HMD.out.keptBy (Kept.ofBelow bE []) (by simp)
          have lpE := (bE.block _ (Array.getElem?_eq_some_iff.1 HLPD.out).1).trans HLPD.out
          have koE := own_keptBy HKO.out (Kept.ofBelow bE []) (away_nil _)
          have kE1 := kE.c1
          have kEf := fun i => kE.frozen i
          obtain ⟨zt2, s0, s1, s2, s3, s4⟩ := Blk.five tE
          have hze : W1.heap.size ≤ We.heap.size := KE.size
          have HTE := Lib.hid tE
          have HKE2 := Lib.hid KE
          have HME := Lib.hid mE
          have HLPE := Lib.hid lpE
          have HKB := Lib.hid kE
          clear tE KE mE lpE kE
          have koA := World.ownsRow.alloc koE (.cells #[.int .i64 off] 3)
          have kbA := Lib.hid (HKB.out.alloc (.cells #[.int .i64 off] 3))
          have tA := Lib.hid (HTE.out.alloc (.cells #[.int .i64 off] 3))
          have KA2 := Lib.hid (HKE2.out.bel (below_all (o := .cells #[.int .i64 off] 3) (Below.refl _ _)))
          gi_wp2_with (gi_at_builtin; refine wpListIn_append_own_at _ rfl _ _ 59 rfl W1.heap.size 3 i0 (.int .i64 0) 1 8 Try.underlying59 hinf hz0 hz1 hz2 rfl (by decide) _ _ _ rfl koA ⟨We.heap.size, 0, none⟩ 1 1 [.int .i64 off] rfl rfl (cell_one_new _ _ _) (by simp [Value.oneCell']) (by unfold maxLen; omega) (by omega) (by simp; omega) ?_)
          intro v' w5 o5 g5 z5 at5
          obtain ⟨va5, vc5, rfl⟩ := own_form o5
          have S5 := kbA.out.grown g5 (own_ne koA kbA.out (by decide))
          have T5 := tA.out.grown g5 (own_ne koA tA.out (by decide))
          have K5 := (KA2.out.trans (Kept.ofGrown g5) (fun x hx => by simp only [Option.mem_toList] at hx; exact .inr ((koE.lt x hx).1))).trans (kept_set (w := w5) (b := W.heap.size + 1) 0 (.slice va5 (ks.length + 1) vc5)) (fun x hx => .inl (by simp at hx; simp [hx]))
          have S51 := S5.c1
          have S5f := fun i => S5.frozen i
          have T6 := T5.setOther (a := ⟨W.heap.size + 1, 0, none⟩) (by simp; omega) (.slice va5 (ks.length + 1) vc5)
          obtain ⟨zt6, x0, x1, x2, x3, x4⟩ := Blk.five T6
          have L6 := (LL1.out.keptBy K5 (by simp; omega)).c1
          have HK5 := Lib.hid K5
          have HS5 := Lib.hid S5
          have HG5 := Lib.hid g5
          have HO5 := Lib.hid o5
          have hz5 := g5.size
          have S6 := S5.set 0 (.slice va5 (ks.length + 1) vc5)
          have o6 := own_keptBy o5 (kept_set (w := w5) (b := W.heap.size + 1) 0 (.slice va5 (ks.length + 1) vc5)) (fun b hb hx => by
            simp only [List.mem_singleton] at hx
            have := (o5.lt b hb).1
            omega)
          have lp6 : (w5.setCell ⟨W.heap.size + 1, 0, none⟩ (.slice va5 (ks.length + 1) vc5)).heap[w2.heap.size + 1]? = some (.loop { lp2 with state := .busy }) := by
            refine ((kept_set (w := w5) (b := W.heap.size + 1) 0 (.slice va5 (ks.length + 1) vc5)).block _ (by simp at hz5; omega) (by simp; omega)).trans ?_
            refine (g5.block _ (by simp; omega) (fun e => by have := (koE.lt _ e.symm).1; omega)).trans ?_
            exact (Below.heap_alloc _ _ _ (by omega)).trans HLPE.out
          have m6 := ((HME.out.keptBy (Kept.ofBelow (below_all (o := .cells #[.int .i64 off] 3) (Below.refl _ _)) []) (by simp)).keptBy (Kept.ofGrown g5) (fun hx => by simp only [Option.mem_toList] at hx; have := (koE.lt _ hx).1; omega)).keptBy (kept_set (w := w5) (b := W.heap.size + 1) 0 (.slice va5 (ks.length + 1) vc5)) (by simp; omega)
          have HS6 := Lib.hid S6
          have HO6 := Lib.hid o6
          have HLP6 := Lib.hid lp6
          have MM := m6
          unfold TMap at MM
          clear T6 T5 K5 S5 g5 o5 z5 at5 S6 o6 lp6 m6
          gi_wp2_with (gi_at_mapUpdate; refine wpListIn_mapUpdate_own _ rfl _ _ _ 85 rfl 9 4 keyT Try.underlying85 _ (w.heap.size + 1) keys.length _ rfl MM (by unfold maxLen; omega) _ _ _ rfl rfl hky.out _ [] (plainElem_bool Try.underlying4 true) ?_)
          intro w7 own7 g7
          have m7 : TMap w7 (w.heap.size + 1) (keys ++ [key]) := by
            unfold TMap
            rw [mapT_snoc, List.length_append]
            exact own7
          have k7 := Kept.ofGrown g7
          simp only [Option.toList_some] at k7
          clear own7 g7 MM
          gi_wp2
          refine HEND.out _ (by rw [hs2.out]; exact m7) ⟨_, HS6.out.keptBy k7 (by simp; omega), ?_⟩ ?_ (HK5.out.trans k7 (fun x hx => .inl (by simp at hx; simp [hx])))
          · rw [hs2.out, List.length_append, List.map_append, z1]
            exact own_keptBy HO6.out k7 (fun b hb hx => by
              simp only [List.mem_singleton] at hx
              have := (HO6.out.lt b hb).1
              omega)
          · exact (k7.block _ (Array.getElem?_eq_some_iff.1 HLP6.out).1 (by simp; omega)).trans HLP6.out
    case fin2 =>
      rintro e W2 ⟨⟨v, rfl⟩, j'⟩
      have hst2 : lp2.state ≠ .busy := by rw [hlp2]; simp
      have hpe2 : lp2.pending = none := by rw [hlp2]
      clear hlp2
      have hel := run_endLoop (P := Try.prog) j'.loop hst2
      rw [hpe2] at hel
      refine ⟨none, _, hel, ?_⟩
      obtain ⟨W3, hW3⟩ : ∃ W3, W2.putObj (w2.heap.size + 1) (.loop { lp2 with state := .exhausted, pending := none }) = W3 := ⟨_, rfl⟩
      have KP : Kept [w2.heap.size + 1] W2 W3 := by rw [← hW3]; exact kept_put _
      have K3 : Kept [w.heap.size + 1, W.heap.size + 1, w2.heap.size + 1] W1 W3 := j'.kept.trans KP (fun x hx => .inl (by simp at hx; simp [hx]))
      have m3 := j'.map.keptBy KP (by simp; omega)
      obtain ⟨kv, kb3, ko3⟩ := j'.keep
      have kb3 := kb3.keptBy KP (by simp; omega)
      have ko3 := own_keptBy ko3 KP (fun b hb hx => by
        simp only [List.mem_singleton] at hx
        have := (ko3.lt b hb).1
        omega)
      rw [hW3]
      clear hel hW3 j' ci0 KP hst2 hpe2
      have hcs3 : ∀ x ∈ cs, x ∉ [w.heap.size + 1, W.heap.size + 1, w2.heap.size + 1] := fun x hx => by
        have h1 := HCLT.out x hx
        simp only [List.mem_cons, List.not_mem_nil, or_false]
        rcases HCS.out x hx with h | h
        · have := HBL.out _ h; omega
        · have := HZ0.out; omega
      have n3 := N1.out.keptBy K3 (by simp; omega)
      have L3 := LV1.out.kept K3 hcs3
      have S3 : SegAt W3 s.p s.bs s.d.base s.d.next s.d.l := L3.2.2.1.1 s (by simp)
      have lp3 := (K3.block _ (Array.getElem?_eq_some_iff.1 LP1.out).1 (by simp; omega)).trans LP1.out
      obtain ⟨ka, kc, rfl⟩ := own_form ko3
      have hkl := cAt_len' C1.isEmpty later s.d.l (m := 0) (by omega)
      have cK := Lib.hid (fun W5 (hb : Below W3.heap.size W3 W5) => keep5 s.p s.bs s.d.base s.d.next s.d.l (.slice ka (cAt C1.isEmpty later s.d.l 0).1.length kc) (cAt C1.isEmpty later s.d.l 0).1 W5 (S3.below hb) ((nums_own ko3).below hb) (fun n hn => by
        obtain ⟨f, hf, rfl⟩ := cAt_mem _ _ _ _ n hn
        exact (HL2.out f hf).2) (by omega) (by omega) (fun f hf => (HL2.out f hf).2))
      have hkk := keeps_len (cAt C1.isEmpty later s.d.l 0).1 s.d.l
      generalize hks : (cAt C1.isEmpty later s.d.l 0).1 = ks at *
      have HKS := Lib.hid hks
      clear hks
      generalize hke : keeps ks s.d.l = kl at *
      have HKE := Lib.hid hke
      clear hke
      have hDss := HD'.out
      have q1 : IntKind.i64.wrap (n + ((s.d.l.length : Int) - (kl.length : Int))) = n + ((s.d.l.length : Int) - (kl.length : Int)) := by rw [IntKind.wrap_i64]; omega
      have hmix : Try.prog.follows .mixedOrders = true := by kernel_rfl
      have hsub : ∀ x ∈ s.bs, x ∈ cs := fun x hx => by rw [L3.2.2.2.2]; simp only [List.mem_cons, List.mem_append, sgB_mid]; exact .inr (.inr (.inr (.inl hx)))
      have hn3 : ∀ x ∈ cs, x ≠ w.heap.size + 3 := fun x hx => by
        rcases HCS.out x hx with h | h
        · have := HBL.out _ h; omega
        · have := HZ0.out; omega
      have HN3 := Lib.hid (show w.heap.size + 3 ∉ s.bs from fun hx => hn3 _ (hsub _ hx) rfl)
      have HNB := Lib.hid n3
      have n31 := n3.c1
      have kb31 := kb3.c1
      have PD : Below W3.heap.size W3 W3.drew := (Below.refl _ _).drew
      have hend : ∀ W9 cs5, SegAt W9 s.p cs5 s.d.base s.d.next kl → Kept s.bs W3 W9 → (∀ x ∈ cs5, x ∈ s.bs ∨ W3.heap.size ≤ x) →
          roundPost Try.prog (w.heap.size + 6) (fun e W' => e = Ending.returned (Value.bool true) ∧ CJ w.heap.size W0 g (.slice la ss.length lc) room D ps bs lp i W') .normal { tmps := #[], defers := [] } (W9.setCell ⟨w.heap.size + 3, 0, none⟩ (.int .i64 (n + ((s.d.l.length : Int) - (kl.length : Int))))) := by
        intro W9 cs5 S9 K9 C9
        have hst3 : (cdone D i) = (⟨s.d.base, s.d.next, kl⟩ :: C1, (cAt C1.isEmpty later s.d.l 0).2, n + ((s.d.l.length : Int) - (kl.length : Int))) := by
          rw [HSTEP.out]
          simp only [cD, HKS.out, HKE.out]
        obtain ⟨bs5, L9, KL9, CL9⟩ := L3.turn (d := ⟨s.d.base, s.d.next, kl⟩) S9 K9 C9
        have KS := kept_set (w := W9) (b := w.heap.size + 3) 0 (.int .i64 (n + ((s.d.l.length : Int) - (kl.length : Int))))
        have hb5 : ∀ x ∈ bs5, x ∈ bs ∨ W0.heap.size ≤ x := fun x hx => by
          rcases CL9 x hx with h | h
          · exact HCS.out x h
          · have h1 := K3.size; have h2 := BB1.out.size; have h3 := HKA.out.size; have h4 := HK0.out.size; right; omega
        have L10 := L9.kept KS (fun x hx => by
          simp only [List.mem_singleton]
          rcases hb5 x hx with h | h
          · have := HBL.out _ h; omega
          · have := HZ0.out; omega)
        have m10 := (m3.keptBy KL9 (fun h => by
          rcases HCS.out _ h with h | h
          · have := HBL.out _ h; omega
          · have := HZ0.out; omega)).keptBy KS (by simp)
        have n10 := (HNB.out.keptBy KL9 (fun h => hn3 _ h rfl)).set 0 (.int .i64 (n + ((s.d.l.length : Int) - (kl.length : Int))))
        have lp9 := (KL9.block _ (Array.getElem?_eq_some_iff.1 lp3).1 (fun h => by
          rcases HCS.out _ h with h | h
          · have := HBL.out _ h; omega
          · have := HZ0.out; omega)).trans lp3
        have lp10 := (KS.block _ (Array.getElem?_eq_some_iff.1 lp9).1 (by simp)).trans lp9
        have KT : Kept (bs ++ [w.heap.size + 1, w.heap.size + 3, w.heap.size + 6]) W0 (W9.setCell ⟨w.heap.size + 3, 0, none⟩ (.int .i64 (n + ((s.d.l.length : Int) - (kl.length : Int))))) := by
          refine ((((HK0.out.trans HKA.out (fun x hx => .inl (by simp at hx; simp [hx]))).bel BB1.out).trans K3 (fun x hx => ?_)).trans KL9 (fun x hx => ?_)).trans KS (fun x hx => .inl (by simp at hx; simp [hx]))
          · have h4 := HK0.out.size
            have h5 := HZ0.out
            simp only [List.mem_cons, List.not_mem_nil, or_false] at hx
            rcases hx with hx | hx | hx
            · exact .inl (by simp [hx])
            · right; omega
            · right; omega
          · rcases HCS.out x hx with h | h
            · exact .inl (by simp [h])
            · exact .inr h
        have h4 := run_endRound (P := Try.prog) none lp10
        have elp : ({ ({ lp with state := .busy } : Loop) with state := if (none : Option Code).isNone then .ready else .done, pending := none } : Loop) = lp := by
          cases lp; simp at hst hpe; subst hst; subst hpe; rfl
        rw [elp] at h4
        have KQ : Kept [w.heap.size + 6] (W9.setCell ⟨w.heap.size + 3, 0, none⟩ (.int .i64 (n + ((s.d.l.length : Int) - (kl.length : Int))))) ((W9.setCell ⟨w.heap.size + 3, 0, none⟩ (.int .i64 (n + ((s.d.l.length : Int) - (kl.length : Int))))).putObj (w.heap.size + 6) (.loop lp)) := kept_put _
        refine ⟨_, _, h4, rfl, ⟨by rw [hst3]; exact m10.keptBy KQ (by simp), by rw [hst3]; exact n10.keptBy KQ (by simp), World.putObj_heap_same (Array.getElem?_eq_some_iff.1 lp10).1, ⟨bs5, _, L10.kept KQ (fun x hx => ?_), ?_, ?_, hb5⟩, KT.trans KQ (fun x hx => .inl (by simp at hx; simp [hx]))⟩⟩
        · simp only [List.mem_singleton]
          rcases hb5 x hx with h | h
          · have := HBL.out _ h; omega
          · have := HZ0.out; omega
        · rw [hst3, List.map_append, List.map_cons, HA.out, HB.out]
        · have := HP.out
          rw [List.map_append, List.map_cons] at this ⊢
          exact this
      have HEND := Lib.hid hend
      have hkf : Hid (∀ (W9 : World) cs5, SegAt W9 s.p cs5 s.d.base s.d.next kl → Kept s.bs W3 W9 → Blk W9 (w.heap.size + 3) #[.int .i64 n] 3) := Lib.hid (fun W9 cs5 _ k9 => HNB.out.keptBy k9 HN3.out)
      clear hend m3 n3 L3 S3 lp3 kb3 ko3 K3 hcs3 hsub hn3 hst hpe
      gi_wp2
      gi_region_with_o (refine ⟨trivial, ?_⟩; gi_at_call 52; refine (CallsIn.inRound _ (callsIn_wide.2 (cK.out _ PD))).mono ?_; rintro e w5 ⟨rfl, cs5, S5, K5, C5⟩; have K6 := (Kept.ofBelow PD s.bs).trans K5 (fun x hx => .inl hx); have n5 := (hkf.out _ _ S5 K6).c1; have n5f := fun i => (hkf.out _ _ S5 K6).frozen i; have S6 := Lib.hid S5; have K7 := Lib.hid K6; have C6 := Lib.hid C5; clear S5 K5 C5 K6)
      all_goals gi_wp2
      all_goals exact HEND.out _ _ S6.out K7.out (fun x hx => (C6.out x hx))
  case fin =>
    rintro e W2 ⟨⟨v, rfl⟩, j⟩
    have hst : lp.state ≠ .busy := by rw [hlp]; simp
    have hpe : lp.pending = none := by rw [hlp]
    clear hlp
    have hel := run_endLoop (P := Try.prog) j.loop hst
    rw [hpe] at hel
    refine ⟨none, _, hel, ?_⟩
    obtain ⟨W3, hW3⟩ : ∃ W3, W2.putObj (w.heap.size + 6) (.loop { lp with state := .exhausted, pending := none }) = W3 := ⟨_, rfl⟩
    have KP : Kept [w.heap.size + 6] W2 W3 := by rw [← hW3]; exact kept_put _
    rw [show w.heap.size + 5 + 1 = w.heap.size + 6 from rfl, hW3]
    have n3 := j.nbox.keptBy KP (by simp)
    have K3 := j.kept.trans KP (fun x hx => .inl (by simp at hx; simp [hx]))
    have d3 := (K3.block (w.heap.size + 5) (by have := HZ0.out; omega) (away_of HBL.out (by omega) (by omega) (by omega) (by omega))).trans HDF.out
    obtain ⟨cs, ss', hL, hd', hp', hcs⟩ := j.log
    have hcs6 : ∀ y, w.heap.size ≤ y → y < w.heap.size + 7 → ∀ x ∈ cs, x ∉ [y] := fun y h1 h2 x hx => by
      simp only [List.mem_singleton]
      rcases hcs x hx with h | h
      · have := HBL.out _ h; omega
      · have := HZ0.out; omega
    have L3 := hL.kept KP (hcs6 _ (by omega) (by omega))
    have KQ : Kept [w.heap.size + 5] W3 (W3.putObj (w.heap.size + 5) (.deferred none)) := kept_put _
    have L4 := L3.kept KQ (hcs6 _ (by omega) (by omega))
    have K4 : Kept bs w (W3.putObj (w.heap.size + 5) (.deferred none)) := ((Kept.ofBelow hB0.out bs).trans K3 (fun x hx => by
      simp only [List.mem_append, List.mem_cons, List.not_mem_nil, or_false] at hx
      rcases hx with hx | hx | hx | hx
      · exact .inl hx
      · right; omega
      · right; omega
      · right; omega)).trans KQ (fun x hx => by simp at hx; right; omega)
    have HR9 := hR.out cs ss' _ L4.at (by rw [hd']; simp) K4 (fun x hx => (hcs x hx).imp id (fun h => by have := HZ0.out; omega))
    have HR8 := Lib.hid HR9
    have HD3 := Lib.hid d3
    have n31 := n3.c1
    clear hel hW3 j j0 KP n3 K3 d3 hL hd' hp' hcs hcs6 L3 KQ L4 K4 HR9 hst hpe hR
    gi_wp2
    refine ⟨by simp, .inl ⟨_, _, rfl, run_takeDeferred HD3.out, ?_⟩⟩
    refine ⟨_, results_tmp rfl _ _ _, ?_⟩
    exact HR8.out
end Go.Proofs.Ytkfglnhapcceaaa
