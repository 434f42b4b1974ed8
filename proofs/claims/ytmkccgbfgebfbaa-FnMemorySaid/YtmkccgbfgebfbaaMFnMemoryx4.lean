/- Walks of functions that the law FnMemory reaches: each comes to just what its Lean function says. (Begun as the texts that print.sh wrote for this claim; some of them, and those that it does not write, are mine.) No condition. -/
import Derived.Test.YtmkccgbfgebfbaaMFnMemoryx3
namespace Go.Proofs.Ytmkccgbfgebfbaa.MFnMemory
open Go.RowKit Go.Proofs.YtmkccgbfgebfbaaW.PrintWords Go.Proofs.YtmkccgbfgebfbaaW.PrintLast Go.Proofs.YtmkccgbfgebfbaaW.PrintMore
attribute [local go_sem] max2_int min2_int max_two min_two max_three min_three max_four min_four   -- for this text's walks alone
set_option linter.unusedVariables false
set_option linter.unusedSimpArgs false

/-! ### spec_l6Draw: function 62 -/
def spec_l6Draw.f (k : Nat) (s0_0 : List Int) (s0_1 : Int) (s0_2 : Int) : Option ((List (List Int)) × List Int × Int × Int × Int) := (spec_l2DrawRight.f k s0_0 s0_1 s0_2).bind fun bt368 => ((spec_l1Once.f s0_0 bt368.2.1 bt368.2.2 20).bind fun bt374 => (if bt374.1 = true then ((spec_l2Draw.f k s0_0 bt374.2.1 bt374.2.2).bind fun bt377 => ((spec_l6DrawMem.f k s0_0 bt377.2.1 bt377.2.2 bt377.1).bind fun bt382 => (some (bt377.1, bt382.1, bt382.2.1, bt382.2.2.1, bt382.2.2.2)))) else ((spec_l6DrawMem.f k s0_0 bt374.2.1 bt374.2.2 bt368.1).bind fun bt388 => (some (bt368.1, bt388.1, bt388.2.1, bt388.2.2.1, bt388.2.2.2)))))
theorem spec_l6Draw.mono : ∀ a0 a1 a2 k, LeO (spec_l6Draw.f k a0 a1 a2) (spec_l6Draw.f (k + 1) a0 a1 a2) := by
 intro a0 a1 a2 k
 unfold spec_l6Draw.f
 repeat' first
   | (with_reducible exact spec_l2Draw.mono _ _ _ _)
   | (with_reducible exact spec_l2DrawRight.mono _ _ _ _)
   | (with_reducible exact spec_l6DrawMem.mono _ _ _ _ _)
   | (with_reducible exact LeO.refl _)
   | (with_reducible exact LeO.none _)
   | (with_reducible refine LeO.ite ?_ ?_)
   | (with_reducible refine LeO.bind ?_ (fun _ => ?_))
   | exact spec_l2Draw.mono _ _ _ _
   | exact spec_l2DrawRight.mono _ _ _ _
   | exact spec_l6DrawMem.mono _ _ _ _ _
   | exact LeO.none _
   | refine LeO.ite ?_ ?_
   | refine LeO.bind ?_ (fun _ => ?_)
set_option maxHeartbeats 8000000 in
set_option maxRecDepth 100000 in
theorem spec_l6Draw.calls (k : Nat) (g : Nat) (s0_0 : List Int) (s0_1 : Int) (s0_2 : Int) (r1 : List (List Int)) (r2 : List Int) (r3 : Int) (r4 : Int) (r5 : Int) (w0 w : World) (hI : IsS107 w0 w g s0_0 s0_1 s0_2) (hB : Below w0.heap.size w0 w) (h : spec_l6Draw.f k s0_0 s0_1 s0_2 = some (r1, r2, r3, r4, r5)) :
  Calls Try.prog 62 #[.pointer (some ⟨g, 0, none⟩)] w fun e w' => ∃ v0_ v1_ : Value, e = .returned (.tuple #[.agg #[v0_], .agg #[v1_, .int .i64 r3]]) ∧ Kd.S (cutK 3 (Kd.int .i64)) 30 w' w.heap.size (fun k_ => some k_ ≠ (v1_ : Value).ownBlock) v0_ r1 ∧ Kd.Q (Kd.int .i64) 3 w' w.heap.size (fun _ => True) v1_ r2 ∧ IsS107 w0 w' g s0_0 r4 r5 ∧ Below w0.heap.size w0 w' ∧ KeepBut w w' g none := by
 have hu29 := Try.underlying29
 have hu32 := Try.underlying32
 have HI0 := Aside0.mk hI
 have HK := Aside0.mk (KeepBut.refl w g none)
 have HL := Aside0.mk hB.size
 clear hI
 have HW0 := Aside0.mk hB.size
 have HB := Aside0.mk hB
 clear hB
 have H : ((spec_l2DrawRight.f k s0_0 s0_1 s0_2).bind fun bt368 => ((spec_l1Once.f s0_0 bt368.2.1 bt368.2.2 20).bind fun bt374 => (if bt374.1 = true then ((spec_l2Draw.f k s0_0 bt374.2.1 bt374.2.2).bind fun bt377 => ((spec_l6DrawMem.f k s0_0 bt377.2.1 bt377.2.2 bt377.1).bind fun bt382 => (some (bt377.1, bt382.1, bt382.2.1, bt382.2.2.1, bt382.2.2.2)))) else ((spec_l6DrawMem.f k s0_0 bt374.2.1 bt374.2.2 bt368.1).bind fun bt388 => (some (bt368.1, bt388.1, bt388.2.1, bt388.2.2.1, bt388.2.2.2)))))) = some (r1, r2, r3, r4, r5) := h
 clear h
 replace H := Option.bind_eq_some_iff.mp H
 obtain ⟨⟨t368, t371, t372⟩, A20, H⟩ := H
 replace H : ((spec_l1Once.f s0_0 t371 t372 20).bind fun bt374 => (if bt374.1 = true then ((spec_l2Draw.f k s0_0 bt374.2.1 bt374.2.2).bind fun bt377 => ((spec_l6DrawMem.f k s0_0 bt377.2.1 bt377.2.2 bt377.1).bind fun bt382 => (some (bt377.1, bt382.1, bt382.2.1, bt382.2.2.1, bt382.2.2.2)))) else ((spec_l6DrawMem.f k s0_0 bt374.2.1 bt374.2.2 t368).bind fun bt388 => (some (t368, bt388.1, bt388.2.1, bt388.2.2.1, bt388.2.2.2))))) = some (r1, r2, r3, r4, r5) := H
 have A2 := Aside0.mk A20
 clear A20
 replace H := Option.bind_eq_some_iff.mp H
 obtain ⟨⟨t374, t375, t376⟩, A30, H⟩ := H
 replace H : (if t374 = true then ((spec_l2Draw.f k s0_0 t375 t376).bind fun bt377 => ((spec_l6DrawMem.f k s0_0 bt377.2.1 bt377.2.2 bt377.1).bind fun bt382 => (some (bt377.1, bt382.1, bt382.2.1, bt382.2.2.1, bt382.2.2.2)))) else ((spec_l6DrawMem.f k s0_0 t375 t376 t368).bind fun bt388 => (some (t368, bt388.1, bt388.2.1, bt388.2.2.1, bt388.2.2.2)))) = some (r1, r2, r3, r4, r5) := H
 have A3 := Aside0.mk A30
 clear A30
 by_cases c4 : t374 = true
 ·subst c4
  have H1 : ((spec_l2Draw.f k s0_0 t375 t376).bind fun bt377 => ((spec_l6DrawMem.f k s0_0 bt377.2.1 bt377.2.2 bt377.1).bind fun bt382 => (some (bt377.1, bt382.1, bt382.2.1, bt382.2.2.1, bt382.2.2.2)))) = some (r1, r2, r3, r4, r5) := by rw [if_pos rfl] at H; exact H
  clear H
  have H := H1
  clear H1
  replace H := Option.bind_eq_some_iff.mp H
  obtain ⟨⟨t377, t380, t381⟩, A50, H⟩ := H
  replace H : ((spec_l6DrawMem.f k s0_0 t380 t381 t377).bind fun bt382 => (some (t377, bt382.1, bt382.2.1, bt382.2.2.1, bt382.2.2.2))) = some (r1, r2, r3, r4, r5) := H
  have A5 := Aside0.mk A50
  clear A50
  replace H := Option.bind_eq_some_iff.mp H
  obtain ⟨⟨t382, t385, t386, t387⟩, A60, H⟩ := H
  replace H : (some (t377, t382, t385, t386, t387)) = some (r1, r2, r3, r4, r5) := H
  have A6 := Aside0.mk A60
  clear A60
  simp only [Option.some.injEq, Prod.mk.injEq] at H
  obtain ⟨rfl, rfl, rfl, rfl, rfl⟩ := H
  go_enter Try.func62, Try.ntmps62
  try go_wp2_with (first | ((with_reducible refine gate_dst (N := 2) rfl ?_); refine bx (N := 2) (cs := #[.slice none 0 0]) (t := 29) ?_; intro gb366 hg w7 hbox hb; have n0_ := Aside0.mk (IsS107.below (si HI0.out) hb); have n1_ := Aside0.mk (KeepBut.trans (kp HK.out) (KeepBut.of_below hb g none) (.inl rfl)); have n2_ := Aside0.mk (below_step (bi HB.out) hb); have n3_ := Aside0.mk (hbox); have n4_ := Aside0.mk ((by rw [hg]; exact (keep_size (w := w) (g := g) (row := none) (kp HK.out)) : w.heap.size ≤ gb366)); have n5_ := Aside0.mk ((Nat.le_trans HW0.out (by rw [hg]; exact (keep_size (w := w) (g := g) (row := none) (kp HK.out)) : w.heap.size ≤ gb366) : w0.heap.size ≤ gb366)); have n6_ := Aside0.mk ((by rw [hg]; exact Nat.ne_of_lt (IsS107.lt (show IsS107 w0 _ g s0_0 s0_1 s0_2 from si HI0.out)) : g ≠ gb366)); have n7_ := Aside0.mk ((by rw [hg]; exact Nat.ne_of_gt (IsS107.lt (show IsS107 w0 _ g s0_0 s0_1 s0_2 from si HI0.out)) : gb366 ≠ g)); clear HI0; clear HK; clear HB; have HI0 := n0_; have HK := n1_; have HB := n2_; have BK366 := n3_; have GW366 := n4_; have GE366 := n5_; have NB0_366 := n6_; have NB366_0 := n7_; clear n0_ n1_ n2_ n3_ n4_ n5_ n6_ n7_; clear hb hbox hg) | ((with_reducible refine gate_dst (N := 3) rfl ?_); refine bx (N := 3) (cs := #[.slice none 0 0, .int .i64 0]) (t := 32) ?_; intro gb367 hg w8 hbox hb; have n0_ := Aside0.mk (IsS107.below (si HI0.out) hb); have n1_ := Aside0.mk (blk_below (g := gb366) (o := .cells #[.slice none 0 0] 29 (0, 0)) (kb BK366.out) hb); have n2_ := Aside0.mk (KeepBut.trans (kp HK.out) (KeepBut.of_below hb g none) (.inl rfl)); have n3_ := Aside0.mk (below_step (bi HB.out) hb); have n4_ := Aside0.mk (hbox); have n5_ := Aside0.mk ((by rw [hg]; exact (keep_size (w := w) (g := g) (row := none) (kp HK.out)) : w.heap.size ≤ gb367)); have n6_ := Aside0.mk ((Nat.le_trans HW0.out (by rw [hg]; exact (keep_size (w := w) (g := g) (row := none) (kp HK.out)) : w.heap.size ≤ gb367) : w0.heap.size ≤ gb367)); have n7_ := Aside0.mk ((ga hg BK366.out)); have n8_ := Aside0.mk ((gc hg BK366.out)); have n9_ := Aside0.mk ((by rw [hg]; exact Nat.ne_of_lt (IsS107.lt (show IsS107 w0 _ g s0_0 s0_1 s0_2 from si HI0.out)) : g ≠ gb367)); have n10_ := Aside0.mk ((by rw [hg]; exact Nat.ne_of_gt (IsS107.lt (show IsS107 w0 _ g s0_0 s0_1 s0_2 from si HI0.out)) : gb367 ≠ g)); clear HI0; clear BK366; clear HK; clear HB; have HI0 := n0_; have BK366 := n1_; have HK := n2_; have HB := n3_; have BK367 := n4_; have GW367 := n5_; have GE367 := n6_; have NB366_367 := n7_; have NB367_366 := n8_; have NB0_367 := n9_; have NB367_0 := n10_; clear n0_ n1_ n2_ n3_ n4_ n5_ n6_ n7_ n8_ n9_ n10_; clear hb hbox hg) | ((with_reducible refine gate_callee (f := 69) rfl ?_); refine goesM_ (some 6) rfl rfl Try.func69 #[.pointer (some ⟨g, 0, none⟩)] ?_; (with_reducible refine (spec_l2DrawRight.callsC k g s0_0 s0_1 s0_2 t368 t371 t372 w0 _ ?side1 ?side2 A2.out).mono ?_); (case side1 => exact si HI0.out); (case side2 => exact bi HB.out); rintro e w9 ⟨v369, rfl, ho0, hi, hb, hk⟩; refine ⟨_, rfl, ?_⟩; have n0_ := Aside0.mk (KeepBut.blk hk (g' := gb366) (o := .cells #[.slice none 0 0] 29 (0, 0)) (kb BK366.out) NB366_0.out (by simp)); have n1_ := Aside0.mk (KeepBut.blk hk (g' := gb367) (o := .cells #[.slice none 0 0, .int .i64 0] 32 (0, 0)) (kb BK367.out) NB367_0.out (by simp)); have n2_ := Aside0.mk (Kd.S_lower ho0 (keep_size (w := w) (g := g) (row := none) (kp HK.out))); have n3_ := Aside0.mk (KeepBut.trans (kp HK.out) hk (.inl rfl)); have n4_ := Aside0.mk (hb); have n5_ := Aside0.mk (hi); clear BK366; clear BK367; clear HK; clear HB; clear HI0; have BK366 := n0_; have BK367 := n1_; have HO370 := n2_; have HK := n3_; have HB := n4_; have HI0 := n5_; clear n0_ n1_ n2_ n3_ n4_ n5_; (try clear hb); (try clear hb2); (try clear hk); (try clear hi); (try clear ho0)) | ((with_reducible refine gate_dst (N := 4) rfl ?_); refine bx (N := 4) (cs := #[.slice none 0 0]) (t := 29) ?_; intro gb373 hg w10 hbox hb; have n0_ := Aside0.mk (Kd.S_below (ks HO370.out) hb); have n1_ := Aside0.mk (IsS107.below (si HI0.out) hb); have n2_ := Aside0.mk (blk_below (g := gb366) (o := .cells #[.slice none 0 0] 29 (0, 0)) (kb BK366.out) hb); have n3_ := Aside0.mk (blk_below (g := gb367) (o := .cells #[.slice none 0 0, .int .i64 0] 32 (0, 0)) (kb BK367.out) hb); have n4_ := Aside0.mk (KeepBut.trans (kp HK.out) (KeepBut.of_below hb g none) (.inl rfl)); have n5_ := Aside0.mk (below_step (bi HB.out) hb); have n6_ := Aside0.mk (hbox); have n7_ := Aside0.mk ((by rw [hg]; exact (keep_size (w := w) (g := g) (row := none) (kp HK.out)) : w.heap.size ≤ gb373)); have n8_ := Aside0.mk ((Nat.le_trans HW0.out (by rw [hg]; exact (keep_size (w := w) (g := g) (row := none) (kp HK.out)) : w.heap.size ≤ gb373) : w0.heap.size ≤ gb373)); have n9_ := Aside0.mk ((ga hg BK366.out)); have n10_ := Aside0.mk ((gc hg BK366.out)); have n11_ := Aside0.mk ((ga hg BK367.out)); have n12_ := Aside0.mk ((gc hg BK367.out)); have n13_ := Aside0.mk ((by rw [hg]; exact Nat.ne_of_lt (IsS107.lt (show IsS107 w0 _ g s0_0 t371 t372 from si HI0.out)) : g ≠ gb373)); have n14_ := Aside0.mk ((by rw [hg]; exact Nat.ne_of_gt (IsS107.lt (show IsS107 w0 _ g s0_0 t371 t372 from si HI0.out)) : gb373 ≠ g)); clear HO370; clear HI0; clear BK366; clear BK367; clear HK; clear HB; have HO370 := n0_; have HI0 := n1_; have BK366 := n2_; have BK367 := n3_; have HK := n4_; have HB := n5_; have BK373 := n6_; have GW373 := n7_; have GE373 := n8_; have NB366_373 := n9_; have NB373_366 := n10_; have NB367_373 := n11_; have NB373_367 := n12_; have NB0_373 := n13_; have NB373_0 := n14_; clear n0_ n1_ n2_ n3_ n4_ n5_ n6_ n7_ n8_ n9_ n10_ n11_ n12_ n13_ n14_; clear hb hbox hg; obtain ⟨Ao11, co11, eo11⟩ := Kd.S_slice HO370.out; subst eo11; have hnb12 := NB373_366.out; have hnc12 := NB366_373.out; have hnb13 := NB373_367.out; have hnc13 := NB367_373.out; have hnb14 := NB373_0.out; have hnc14 := NB0_373.out; have hcz15_0 : w10.cell? ⟨gb373, 0, none⟩ = some (.slice none 0 0) := (blk_cell BK373.out 0).trans rfl; have hfz15_0 := blk_frozen BK373.out 0) | ((with_reducible refine gate_callee (f := 58) rfl ?_); refine goesM_ (some 8) rfl rfl Try.func58 #[.pointer (some ⟨g, 0, none⟩), .int .i64 20] ?_; (with_reducible refine (spec_l1Once.calls g s0_0 t371 t372 20 true t375 t376 w0 _ ?side1 ?side2 A3.out).mono ?_); (case side1 => exact si HI0.out); (case side2 => exact bi HB.out); rintro e w16 ⟨rfl, hi, hb, hk⟩; refine ⟨_, rfl, ?_⟩; have n0_ := Aside0.mk (KeepBut.blk hk (g' := gb366) (o := .cells #[.slice none 0 0] 29 (0, 0)) (kf BK366.out) NB366_0.out (by simp)); have n1_ := Aside0.mk (KeepBut.blk hk (g' := gb367) (o := .cells #[.slice none 0 0, .int .i64 0] 32 (0, 0)) (kf BK367.out) NB367_0.out (by simp)); have n2_ := Aside0.mk (Kd.S_mono (Kd.S_keep (IsS107.apartS (show IsS107 w0 _ g s0_0 t371 t372 from si HI0.out) (ks ((Kd.S_mono (Kd.S_far (p := ⟨gb373, 0, none⟩) (Kd.S_types HO370.out BK373.out (by decide)) (fun _ hk => hk.2) (.slice Ao11 t368.length co11)) (fun _ h_ => h_.1)))) (by decide)) hk (fun _ h => h.2)) (fun _ h => h.1)); have n3_ := Aside0.mk (KeepBut.blk hk (g' := gb373) (o := .cells #[.slice Ao11 t368.length co11] 29 (0, 0)) (kt BK373.out) NB373_0.out (by simp)); have n4_ := Aside0.mk (KeepBut.trans (kp HK.out) hk (.inl rfl)); have n5_ := Aside0.mk (hb); have n6_ := Aside0.mk (hi); clear BK366; clear BK367; clear HO370; clear BK373; clear HK; clear HB; clear HI0; have BK366 := n0_; have BK367 := n1_; have HO370 := n2_; have BK373 := n3_; have HK := n4_; have HB := n5_; have HI0 := n6_; clear n0_ n1_ n2_ n3_ n4_ n5_ n6_; (try clear hb); (try clear hb2); (try clear hk); (try clear hi)) | ((with_reducible refine gate_callee (f := 65) rfl ?_); refine goesM_ (some 10) rfl rfl Try.func65 #[.pointer (some ⟨g, 0, none⟩)] ?_; (with_reducible refine (spec_l2Draw.calls k g s0_0 t375 t376 t377 t380 t381 w0 _ ?side1 ?side2 A5.out).mono ?_); (case side1 => exact si HI0.out); (case side2 => exact bi HB.out); rintro e w17 ⟨v378, rfl, ho0, hi, hb, hk⟩; refine ⟨_, rfl, ?_⟩; have n0_ := Aside0.mk (KeepBut.blk hk (g' := gb366) (o := .cells #[.slice none 0 0] 29 (0, 0)) (kb BK366.out) NB366_0.out (by simp)); have n1_ := Aside0.mk (KeepBut.blk hk (g' := gb367) (o := .cells #[.slice none 0 0, .int .i64 0] 32 (0, 0)) (kb BK367.out) NB367_0.out (by simp)); have n2_ := Aside0.mk (Kd.S_mono (Kd.S_told (Kd.S_oldK (IsS107.apartS (show IsS107 w0 _ g s0_0 t375 t376 from si HI0.out) (ks HO370.out) (by decide)) hk) (Kd.S_base ho0)) (fun _ h_ => h_.1)); have n3_ := Aside0.mk (KeepBut.blk hk (g' := gb373) (o := .cells #[.slice Ao11 t368.length co11] 29 (0, 0)) (kb BK373.out) NB373_0.out (by simp)); have n4_ := Aside0.mk (Kd.S_lower (Kd.S_new' ho0 (Kd.S_lt (ks HO370.out))) (keep_size (w := w) (g := g) (row := none) (kp HK.out))); have n5_ := Aside0.mk (KeepBut.trans (kp HK.out) hk (.inl rfl)); have n6_ := Aside0.mk (hb); have n7_ := Aside0.mk (hi); clear BK366; clear BK367; clear HO370; clear BK373; clear HK; clear HB; clear HI0; have BK366 := n0_; have BK367 := n1_; have HO370 := n2_; have BK373 := n3_; have HO379 := n4_; have HK := n5_; have HB := n6_; have HI0 := n7_; clear n0_ n1_ n2_ n3_ n4_ n5_ n6_ n7_; (try clear hb); (try clear hb2); (try clear hk); (try clear hi); (try clear ho0); obtain ⟨Ao18, co18, eo18⟩ := Kd.S_slice HO379.out; subst eo18; have hcz19_0 : w17.cell? ⟨gb373, 0, none⟩ = some (.slice Ao11 t368.length co11) := (blk_cell BK373.out 0).trans rfl; have hfz19_0 := blk_frozen BK373.out 0))
  have n0_ : Aside0 (Kd.S (cutK 3 (Kd.int .i64)) 30 (w17.setCell ⟨gb373, 0, none⟩ (.slice Ao18 t377.length co18)) w.heap.size (fun k_ => some k_ ≠ (.slice Ao18 t377.length co18 : Value).ownBlock) (.slice Ao11 t368.length co11) t368) := ⟨ks (Kd.S_mono (Kd.S_far (p := ⟨gb373, 0, none⟩) (Kd.S_types HO370.out BK373.out (by decide)) (fun _ hk => hk.2) (.slice Ao18 t377.length co18)) (fun _ hk => hk.1.2))⟩
  have n1_ : Aside0 (Kd.S (cutK 3 (Kd.int .i64)) 30 (w17.setCell ⟨gb373, 0, none⟩ (.slice Ao18 t377.length co18)) w.heap.size (fun k_ => some k_ ≠ (.slice Ao11 t368.length co11 : Value).ownBlock) (.slice Ao18 t377.length co18) t377) := ⟨ks (Kd.S_mono (Kd.S_far (p := ⟨gb373, 0, none⟩) (Kd.S_types HO379.out BK373.out (by decide)) (fun _ hk => hk.2) (.slice Ao18 t377.length co18)) (fun _ hk => hk.1.2))⟩
  have n2_ : Aside0 ((w17.setCell ⟨gb373, 0, none⟩ (.slice Ao18 t377.length co18)).heap[gb366]? = some (.cells #[.slice none 0 0] 29 (0, 0))) := ⟨kf BK366.out⟩
  have n3_ : Aside0 ((w17.setCell ⟨gb373, 0, none⟩ (.slice Ao18 t377.length co18)).heap[gb367]? = some (.cells #[.slice none 0 0, .int .i64 0] 32 (0, 0))) := ⟨kf BK367.out⟩
  have n4_ : Aside0 ((w17.setCell ⟨gb373, 0, none⟩ (.slice Ao18 t377.length co18)).heap[gb373]? = some (.cells #[.slice Ao18 t377.length co18] 29 (0, 0))) := ⟨kt BK373.out⟩
  have n5_ : Aside0 (IsS107 w0 (w17.setCell ⟨gb373, 0, none⟩ (.slice Ao18 t377.length co18)) g s0_0 t380 t381) := ⟨si HI0.out⟩
  have n6_ : Aside0 (KeepBut w (w17.setCell ⟨gb373, 0, none⟩ (.slice Ao18 t377.length co18)) g none) := ⟨kp HK.out⟩
  have n7_ : Aside0 (Below w0.heap.size w0 (w17.setCell ⟨gb373, 0, none⟩ (.slice Ao18 t377.length co18))) := ⟨bi HB.out⟩
  (try clear HO370); (try clear HO379); (try clear BK366); (try clear BK367); (try clear BK373); (try clear HI0); (try clear HK); (try clear HB)
  generalize (w17.setCell ⟨gb373, 0, none⟩ (.slice Ao18 t377.length co18)) = w20 at n0_ n1_ n2_ n3_ n4_ n5_ n6_ n7_ ⊢
  have HO370 := n0_; have HO379 := n1_; have BK366 := n2_; have BK367 := n3_; have BK373 := n4_; have HI0 := n5_; have HK := n6_; have HB := n7_; clear n0_ n1_ n2_ n3_ n4_ n5_ n6_ n7_
  have n0_ := Aside0.mk (Kd.S_drew HO370.out)
  have n1_ := Aside0.mk (Kd.S_drew HO379.out)
  have n2_ := Aside0.mk (blk_drew BK366.out)
  have n3_ := Aside0.mk (blk_drew BK367.out)
  have n4_ := Aside0.mk (blk_drew BK373.out)
  have n5_ := Aside0.mk (IsS107.drew HI0.out)
  have n6_ := Aside0.mk (keep_drew HK.out)
  have n7_ := Aside0.mk (below_drew1 HB.out)
  clear HO370; clear HO379; clear BK366; clear BK367; clear BK373; clear HI0; clear HK; clear HB; have HO370 := n0_; have HO379 := n1_; have BK366 := n2_; have BK367 := n3_; have BK373 := n4_; have HI0 := n5_; have HK := n6_; have HB := n7_; clear n0_ n1_ n2_ n3_ n4_ n5_ n6_ n7_
  refine start_ (n := 6) (S := fun w' => w'.cell? ⟨gb373, 0, none⟩ = some (.slice Ao18 t377.length co18)) (ds := []) #[false, false, false, false, false, false] (by kernel_rfl) rfl rfl ((blk_cell BK373.out 0).trans rfl) (fun hHeld => ?_)
  generalize w20.drew = w21 at HO370 HO379 BK366 BK367 BK373 HI0 HK HB hHeld ⊢
  refine pure_ (i := 1) (N := some 12) (v := ?_) (a' := ?_) #[false, true, false, false, false, false] rfl rfl (by kernel_rfl) (fun _ _ _ h => h) (Or.inl ⟨by rfl, ?_⟩) ?_ ?_
  rotate_left
  ·intro w'
   go_simp
   with_reducible rfl
  rotate_left
  ·simp only [Act.put, List.setIfInBounds_toArray, List.set_cons_zero, List.set_cons_succ, i64_w, i32_w]
   rfl
  refine take_ (i := 0) (N := some 11) (v := ?_) (a' := ?_) #[true, true, false, false, false, false] rfl rfl (by kernel_rfl) (fun _ _ _ h => h) (Or.inl ⟨by rfl, ?_⟩) hHeld ?_ ?_
  rotate_left
  ·intro w' s0
   go_simp
   with_reducible rfl
  rotate_left
  ·simp only [Act.put, List.setIfInBounds_toArray, List.set_cons_zero, List.set_cons_succ, i64_w, i32_w]
   rfl
  refine take_ (i := 2) (N := some 13) (v := ?_) (a' := ?_) #[true, true, true, false, false, false] rfl rfl (by kernel_rfl) (fun _ _ _ h => h) (Or.inl ⟨by rfl, ?_⟩) hHeld ?_ ?_
  rotate_left
  ·intro w' s0
   go_simp
   with_reducible rfl
  rotate_left
  ·simp only [Act.put, List.setIfInBounds_toArray, List.set_cons_zero, List.set_cons_succ, i64_w, i32_w]
   rfl
  refine one_ (i := 3) (N := some 14) #[true, true, true, true, false, false] rfl rfl (by kernel_rfl) (by decide) (fun K hK => ?_)
  refine goes_ Try.func103 (by kernel_rfl) rfl #[.pointer (some ⟨g, 0, none⟩), .agg #[.slice Ao18 t377.length co18]] (by rfl) rfl rfl (by (try simp only [List.map_toArray, List.map_cons, List.map_nil]); first | done | rfl | (simp only [List.length_drop, List.length_take]; rfl)) ?_
  with_reducible refine (spec_l6DrawMem.calls k g s0_0 t380 t381 _ _ t377 t382 t385 t386 t387 w0 _ ?side1 ?side2 ?side3 ?side4 A6.out).mono ?_
  (case side1 => exact si HI0.out)
  (case side2 => exact bi HB.out)
  (case side3 => exact (Kd.C_foot_own ((Kd.S_R (IsS107.apartS (show IsS107 w0 _ g s0_0 t380 t381 from si HI0.out) (ks HO379.out) (by decide)))) (fun _ h_ => h_.2) :))
  (case side4 => exact (Kd.S_reads' HO379.out).2.1)
  rintro e w22 ⟨v383, rfl, ho0, hi, hb, hk⟩
  refine ⟨_, rfl, ?_⟩
  have n0_ := Aside0.mk (KeepBut.blk hk (g' := gb366) (o := .cells #[.slice none 0 0] 29 (0, 0)) (kb BK366.out) NB366_0.out (by simp))
  have n1_ := Aside0.mk (KeepBut.blk hk (g' := gb367) (o := .cells #[.slice none 0 0, .int .i64 0] 32 (0, 0)) (kb BK367.out) NB367_0.out (by simp))
  have n2_ := Aside0.mk (Kd.S_mono (Kd.S_told (Kd.S_oldK (IsS107.apartS (show IsS107 w0 _ g s0_0 t380 t381 from si HI0.out) (ks HO370.out) (by decide)) hk) (Kd.Q_base ho0)) (fun _ h_ => h_.1))
  have n3_ := Aside0.mk (KeepBut.blk hk (g' := gb373) (o := .cells #[.slice Ao18 t377.length co18] 29 (0, 0)) (kb BK373.out) NB373_0.out (by simp))
  have n4_ := Aside0.mk (Kd.S_mono (Kd.S_told (Kd.S_oldK (IsS107.apartS (show IsS107 w0 _ g s0_0 t380 t381 from si HI0.out) (ks HO379.out) (by decide)) hk) (Kd.Q_base ho0)) (fun _ h_ => h_.1))
  have n5_ := Aside0.mk (Kd.Q_lower ho0 (keep_size (w := w) (g := g) (row := none) (kp HK.out)))
  have n6_ := Aside0.mk (KeepBut.trans (kp HK.out) hk (.inl rfl))
  have n7_ := Aside0.mk (hb)
  have n8_ := Aside0.mk (hi)
  clear BK366; clear BK367; clear HO370; clear BK373; clear HO379; clear HK; clear HB; clear HI0; have BK366 := n0_; have BK367 := n1_; have HO370 := n2_; have BK373 := n3_; have HO379 := n4_; have HO384 := n5_; have HK := n6_; have HB := n7_; have HI0 := n8_; clear n0_ n1_ n2_ n3_ n4_ n5_ n6_ n7_ n8_; (try clear hb); (try clear hb2); (try clear hk); (try clear hi); (try clear ho0)
  obtain ⟨Ao24, co24, eo24, _⟩ := Kd.Q_slice HO384.out
  (first | subst eo24 | (injection eo24 with f1_ f2_ f3_; have f4_ := f1_.symm; have f5_ := f3_.symm; clear f1_ f2_ f3_; subst f4_; subst f5_))
  refine hK.out _ _ ((blk_cell BK373.out 0).trans rfl) (fun hHeld => ?_)
  clear hK K
  refine norm_ (a' := ?_) ?_ ?_
  rotate_left
  ·show Act.put _ (some 14) _ = _
   simp only [Act.put, List.setIfInBounds_toArray, List.set_cons_zero, List.set_cons_succ, i64_w, i32_w]
   rfl
  refine one_ (i := 4) (N := none) #[true, true, true, true, true, false] rfl rfl (by kernel_rfl) (by decide) (fun K hK => ?_)
  have hs23 : w22.cell? ⟨gb366, 0, none⟩ = some (.slice none 0 0) := (blk_cell BK366.out 0).trans rfl
  have hfs23 := blk_frozen BK366.out 0
  have hns23_1 := NB367_366.out
  have hns23_2 := NB373_366.out
  have hms23_1 := NB366_367.out
  have hms23_2 := NB366_373.out
  refine skip_ (w1 := ?_) (by rfl) rfl ?_ ?_
  rotate_left
  ·go_simp
   rfl
  refine hK.out _ _ (((cell_far (p := ⟨gb366, _, none⟩) NB373_366.out _).trans (hHeld))) (fun hHeld => ?_)
  clear hK K
  refine one_ (i := 5) (N := none) #[true, true, true, true, true, true] rfl rfl (by kernel_rfl) (by decide) (fun K hK => ?_)
  have hs25 : w22.cell? ⟨gb367, 0, none⟩ = some (.slice none 0 0) := (blk_cell BK367.out 0).trans rfl
  have hfs25 := blk_frozen BK367.out 0
  have hns25_0 := NB366_367.out
  have hns25_2 := NB373_367.out
  have hms25_0 := NB367_366.out
  have hms25_2 := NB367_373.out
  have hs26 : w22.cell? ⟨gb367, 1, none⟩ = some (.int .i64 0) := (blk_cell BK367.out 1).trans rfl
  have hfs26 := blk_frozen BK367.out 1
  have hns26_0 := NB366_367.out
  have hns26_2 := NB373_367.out
  have hms26_0 := NB367_366.out
  have hms26_2 := NB367_373.out
  refine skip_ (w1 := ?_) (by rfl) rfl ?_ ?_
  rotate_left
  ·go_simp
   rfl
  refine hK.out _ _ (((cell_far (p := ⟨gb367, _, none⟩) NB373_367.out _).trans (((cell_far (p := ⟨gb367, _, none⟩) NB373_367.out _).trans (hHeld))))) (fun hHeld => ?_)
  clear hK K
  refine done_ (by kernel_rfl) ?_
  try go_wp2
  refine bodyPost_ret (results_cc rfl _ _ gb366 gb367 29 32 #[.slice Ao18 t377.length co18] #[.slice Ao24 t382.length co24, .int .i64 t385] (0, 0) (0, 0) _ _ rfl (by (with_reducible repeat (first | refine blk_drewN ?_ _ | refine blk_drew ?_ | refine blk_alloc ?_ _)); refine blk_far ?_ NB366_367.out _; (with_reducible repeat (first | refine blk_drewN ?_ _ | refine blk_drew ?_ | refine blk_alloc ?_ _)); refine blk_far ?_ NB366_367.out _; (with_reducible repeat (first | refine blk_drewN ?_ _ | refine blk_drew ?_ | refine blk_alloc ?_ _)); refine blk_put (cs := #[.slice none 0 0]) ?_ 0 _ rfl; (with_reducible repeat (first | refine blk_drewN ?_ _ | refine blk_drew ?_ | refine blk_alloc ?_ _)); exact BK366.out) Try.underlying29 rfl (by kernel_rfl) rfl (by (with_reducible repeat (first | refine blk_drewN ?_ _ | refine blk_drew ?_ | refine blk_alloc ?_ _)); refine blk_put (cs := #[.slice Ao24 t382.length co24, .int .i64 0]) ?_ 1 _ rfl; (with_reducible repeat (first | refine blk_drewN ?_ _ | refine blk_drew ?_ | refine blk_alloc ?_ _)); refine blk_put (cs := #[.slice none 0 0, .int .i64 0]) ?_ 0 _ rfl; (with_reducible repeat (first | refine blk_drewN ?_ _ | refine blk_drew ?_ | refine blk_alloc ?_ _)); refine blk_far ?_ NB367_366.out _; (with_reducible repeat (first | refine blk_drewN ?_ _ | refine blk_drew ?_ | refine blk_alloc ?_ _)); exact BK367.out) Try.underlying32 rfl (by kernel_rfl)) rfl ?_
  exact ⟨_, _, rt, ks (Kd.S_mono (Kd.S_far (p := ⟨gb367, 1, none⟩) (Kd.S_far (p := ⟨gb367, 0, none⟩) (Kd.S_far (p := ⟨gb366, 0, none⟩) (Kd.S_types (Kd.S_types HO379.out BK366.out (by decide)) BK367.out (by decide)) (fun _ hk => hk.1.2) (.slice Ao18 t377.length co18)) (fun _ hk => hk.2) (.slice Ao24 t382.length co24)) (fun _ hk => hk.2) (.int .i64 t385)) (fun _ hk => hk.1.1.2)), kq (Kd.Q_mono (Kd.Q_far (p := ⟨gb367, 1, none⟩) (Kd.Q_far (p := ⟨gb367, 0, none⟩) (Kd.Q_far (p := ⟨gb366, 0, none⟩) (Kd.Q_types (Kd.Q_types HO384.out BK366.out (by decide)) BK367.out (by decide)) (fun _ hk => hk.1.2) (.slice Ao18 t377.length co18)) (fun _ hk => hk.2) (.slice Ao24 t382.length co24)) (fun _ hk => hk.2) (.int .i64 t385)) (fun _ hk => trivial)), si HI0.out, bi HB.out, kp HK.out⟩
 ·replace c4 := Bool.eq_false_iff.mpr c4
  subst c4
  have H1 : ((spec_l6DrawMem.f k s0_0 t375 t376 t368).bind fun bt388 => (some (t368, bt388.1, bt388.2.1, bt388.2.2.1, bt388.2.2.2))) = some (r1, r2, r3, r4, r5) := by rw [if_neg (show ¬ (false = true) by decide)] at H; exact H
  clear H
  have H := H1
  clear H1
  replace H := Option.bind_eq_some_iff.mp H
  obtain ⟨⟨t388, t391, t392, t393⟩, A270, H⟩ := H
  replace H : (some (t368, t388, t391, t392, t393)) = some (r1, r2, r3, r4, r5) := H
  have A27 := Aside0.mk A270
  clear A270
  simp only [Option.some.injEq, Prod.mk.injEq] at H
  obtain ⟨rfl, rfl, rfl, rfl, rfl⟩ := H
  go_enter Try.func62, Try.ntmps62
  try go_wp2_with (first | ((with_reducible refine gate_dst (N := 2) rfl ?_); refine bx (N := 2) (cs := #[.slice none 0 0]) (t := 29) ?_; intro gb366 hg w28 hbox hb; have n0_ := Aside0.mk (IsS107.below (si HI0.out) hb); have n1_ := Aside0.mk (KeepBut.trans (kp HK.out) (KeepBut.of_below hb g none) (.inl rfl)); have n2_ := Aside0.mk (below_step (bi HB.out) hb); have n3_ := Aside0.mk (hbox); have n4_ := Aside0.mk ((by rw [hg]; exact (keep_size (w := w) (g := g) (row := none) (kp HK.out)) : w.heap.size ≤ gb366)); have n5_ := Aside0.mk ((Nat.le_trans HW0.out (by rw [hg]; exact (keep_size (w := w) (g := g) (row := none) (kp HK.out)) : w.heap.size ≤ gb366) : w0.heap.size ≤ gb366)); have n6_ := Aside0.mk ((by rw [hg]; exact Nat.ne_of_lt (IsS107.lt (show IsS107 w0 _ g s0_0 s0_1 s0_2 from si HI0.out)) : g ≠ gb366)); have n7_ := Aside0.mk ((by rw [hg]; exact Nat.ne_of_gt (IsS107.lt (show IsS107 w0 _ g s0_0 s0_1 s0_2 from si HI0.out)) : gb366 ≠ g)); clear HI0; clear HK; clear HB; have HI0 := n0_; have HK := n1_; have HB := n2_; have BK366 := n3_; have GW366 := n4_; have GE366 := n5_; have NB0_366 := n6_; have NB366_0 := n7_; clear n0_ n1_ n2_ n3_ n4_ n5_ n6_ n7_; clear hb hbox hg) | ((with_reducible refine gate_dst (N := 3) rfl ?_); refine bx (N := 3) (cs := #[.slice none 0 0, .int .i64 0]) (t := 32) ?_; intro gb367 hg w29 hbox hb; have n0_ := Aside0.mk (IsS107.below (si HI0.out) hb); have n1_ := Aside0.mk (blk_below (g := gb366) (o := .cells #[.slice none 0 0] 29 (0, 0)) (kb BK366.out) hb); have n2_ := Aside0.mk (KeepBut.trans (kp HK.out) (KeepBut.of_below hb g none) (.inl rfl)); have n3_ := Aside0.mk (below_step (bi HB.out) hb); have n4_ := Aside0.mk (hbox); have n5_ := Aside0.mk ((by rw [hg]; exact (keep_size (w := w) (g := g) (row := none) (kp HK.out)) : w.heap.size ≤ gb367)); have n6_ := Aside0.mk ((Nat.le_trans HW0.out (by rw [hg]; exact (keep_size (w := w) (g := g) (row := none) (kp HK.out)) : w.heap.size ≤ gb367) : w0.heap.size ≤ gb367)); have n7_ := Aside0.mk ((ga hg BK366.out)); have n8_ := Aside0.mk ((gc hg BK366.out)); have n9_ := Aside0.mk ((by rw [hg]; exact Nat.ne_of_lt (IsS107.lt (show IsS107 w0 _ g s0_0 s0_1 s0_2 from si HI0.out)) : g ≠ gb367)); have n10_ := Aside0.mk ((by rw [hg]; exact Nat.ne_of_gt (IsS107.lt (show IsS107 w0 _ g s0_0 s0_1 s0_2 from si HI0.out)) : gb367 ≠ g)); clear HI0; clear BK366; clear HK; clear HB; have HI0 := n0_; have BK366 := n1_; have HK := n2_; have HB := n3_; have BK367 := n4_; have GW367 := n5_; have GE367 := n6_; have NB366_367 := n7_; have NB367_366 := n8_; have NB0_367 := n9_; have NB367_0 := n10_; clear n0_ n1_ n2_ n3_ n4_ n5_ n6_ n7_ n8_ n9_ n10_; clear hb hbox hg) | ((with_reducible refine gate_callee (f := 69) rfl ?_); refine goesM_ (some 6) rfl rfl Try.func69 #[.pointer (some ⟨g, 0, none⟩)] ?_; (with_reducible refine (spec_l2DrawRight.callsC k g s0_0 s0_1 s0_2 t368 t371 t372 w0 _ ?side1 ?side2 A2.out).mono ?_); (case side1 => exact si HI0.out); (case side2 => exact bi HB.out); rintro e w30 ⟨v369, rfl, ho0, hi, hb, hk⟩; refine ⟨_, rfl, ?_⟩; have n0_ := Aside0.mk (KeepBut.blk hk (g' := gb366) (o := .cells #[.slice none 0 0] 29 (0, 0)) (kb BK366.out) NB366_0.out (by simp)); have n1_ := Aside0.mk (KeepBut.blk hk (g' := gb367) (o := .cells #[.slice none 0 0, .int .i64 0] 32 (0, 0)) (kb BK367.out) NB367_0.out (by simp)); have n2_ := Aside0.mk (Kd.S_lower ho0 (keep_size (w := w) (g := g) (row := none) (kp HK.out))); have n3_ := Aside0.mk (KeepBut.trans (kp HK.out) hk (.inl rfl)); have n4_ := Aside0.mk (hb); have n5_ := Aside0.mk (hi); clear BK366; clear BK367; clear HK; clear HB; clear HI0; have BK366 := n0_; have BK367 := n1_; have HO370 := n2_; have HK := n3_; have HB := n4_; have HI0 := n5_; clear n0_ n1_ n2_ n3_ n4_ n5_; (try clear hb); (try clear hb2); (try clear hk); (try clear hi); (try clear ho0)) | ((with_reducible refine gate_dst (N := 4) rfl ?_); refine bx (N := 4) (cs := #[.slice none 0 0]) (t := 29) ?_; intro gb373 hg w31 hbox hb; have n0_ := Aside0.mk (Kd.S_below (ks HO370.out) hb); have n1_ := Aside0.mk (IsS107.below (si HI0.out) hb); have n2_ := Aside0.mk (blk_below (g := gb366) (o := .cells #[.slice none 0 0] 29 (0, 0)) (kb BK366.out) hb); have n3_ := Aside0.mk (blk_below (g := gb367) (o := .cells #[.slice none 0 0, .int .i64 0] 32 (0, 0)) (kb BK367.out) hb); have n4_ := Aside0.mk (KeepBut.trans (kp HK.out) (KeepBut.of_below hb g none) (.inl rfl)); have n5_ := Aside0.mk (below_step (bi HB.out) hb); have n6_ := Aside0.mk (hbox); have n7_ := Aside0.mk ((by rw [hg]; exact (keep_size (w := w) (g := g) (row := none) (kp HK.out)) : w.heap.size ≤ gb373)); have n8_ := Aside0.mk ((Nat.le_trans HW0.out (by rw [hg]; exact (keep_size (w := w) (g := g) (row := none) (kp HK.out)) : w.heap.size ≤ gb373) : w0.heap.size ≤ gb373)); have n9_ := Aside0.mk ((ga hg BK366.out)); have n10_ := Aside0.mk ((gc hg BK366.out)); have n11_ := Aside0.mk ((ga hg BK367.out)); have n12_ := Aside0.mk ((gc hg BK367.out)); have n13_ := Aside0.mk ((by rw [hg]; exact Nat.ne_of_lt (IsS107.lt (show IsS107 w0 _ g s0_0 t371 t372 from si HI0.out)) : g ≠ gb373)); have n14_ := Aside0.mk ((by rw [hg]; exact Nat.ne_of_gt (IsS107.lt (show IsS107 w0 _ g s0_0 t371 t372 from si HI0.out)) : gb373 ≠ g)); clear HO370; clear HI0; clear BK366; clear BK367; clear HK; clear HB; have HO370 := n0_; have HI0 := n1_; have BK366 := n2_; have BK367 := n3_; have HK := n4_; have HB := n5_; have BK373 := n6_; have GW373 := n7_; have GE373 := n8_; have NB366_373 := n9_; have NB373_366 := n10_; have NB367_373 := n11_; have NB373_367 := n12_; have NB0_373 := n13_; have NB373_0 := n14_; clear n0_ n1_ n2_ n3_ n4_ n5_ n6_ n7_ n8_ n9_ n10_ n11_ n12_ n13_ n14_; clear hb hbox hg; obtain ⟨Ao32, co32, eo32⟩ := Kd.S_slice HO370.out; subst eo32; have hnb33 := NB373_366.out; have hnc33 := NB366_373.out; have hnb34 := NB373_367.out; have hnc34 := NB367_373.out; have hnb35 := NB373_0.out; have hnc35 := NB0_373.out; have hcz36_0 : w31.cell? ⟨gb373, 0, none⟩ = some (.slice none 0 0) := (blk_cell BK373.out 0).trans rfl; have hfz36_0 := blk_frozen BK373.out 0) | ((with_reducible refine gate_callee (f := 58) rfl ?_); refine goesM_ (some 8) rfl rfl Try.func58 #[.pointer (some ⟨g, 0, none⟩), .int .i64 20] ?_; (with_reducible refine (spec_l1Once.calls g s0_0 t371 t372 20 false t375 t376 w0 _ ?side1 ?side2 A3.out).mono ?_); (case side1 => exact si HI0.out); (case side2 => exact bi HB.out); rintro e w37 ⟨rfl, hi, hb, hk⟩; refine ⟨_, rfl, ?_⟩; have n0_ := Aside0.mk (KeepBut.blk hk (g' := gb366) (o := .cells #[.slice none 0 0] 29 (0, 0)) (kf BK366.out) NB366_0.out (by simp)); have n1_ := Aside0.mk (KeepBut.blk hk (g' := gb367) (o := .cells #[.slice none 0 0, .int .i64 0] 32 (0, 0)) (kf BK367.out) NB367_0.out (by simp)); have n2_ := Aside0.mk (Kd.S_mono (Kd.S_keep (IsS107.apartS (show IsS107 w0 _ g s0_0 t371 t372 from si HI0.out) (ks ((Kd.S_mono (Kd.S_far (p := ⟨gb373, 0, none⟩) (Kd.S_types HO370.out BK373.out (by decide)) (fun _ hk => hk.2) (.slice Ao32 t368.length co32)) (fun _ h_ => h_.1)))) (by decide)) hk (fun _ h => h.2)) (fun _ h => h.1)); have n3_ := Aside0.mk (KeepBut.blk hk (g' := gb373) (o := .cells #[.slice Ao32 t368.length co32] 29 (0, 0)) (kt BK373.out) NB373_0.out (by simp)); have n4_ := Aside0.mk (KeepBut.trans (kp HK.out) hk (.inl rfl)); have n5_ := Aside0.mk (hb); have n6_ := Aside0.mk (hi); clear BK366; clear BK367; clear HO370; clear BK373; clear HK; clear HB; clear HI0; have BK366 := n0_; have BK367 := n1_; have HO370 := n2_; have BK373 := n3_; have HK := n4_; have HB := n5_; have HI0 := n6_; clear n0_ n1_ n2_ n3_ n4_ n5_ n6_; (try clear hb); (try clear hb2); (try clear hk); (try clear hi)))
  have n0_ := Aside0.mk (Kd.S_drew HO370.out)
  have n1_ := Aside0.mk (blk_drew BK366.out)
  have n2_ := Aside0.mk (blk_drew BK367.out)
  have n3_ := Aside0.mk (blk_drew BK373.out)
  have n4_ := Aside0.mk (IsS107.drew HI0.out)
  have n5_ := Aside0.mk (keep_drew HK.out)
  have n6_ := Aside0.mk (below_drew1 HB.out)
  clear HO370; clear BK366; clear BK367; clear BK373; clear HI0; clear HK; clear HB; have HO370 := n0_; have BK366 := n1_; have BK367 := n2_; have BK373 := n3_; have HI0 := n4_; have HK := n5_; have HB := n6_; clear n0_ n1_ n2_ n3_ n4_ n5_ n6_
  refine start_ (n := 6) (S := fun w' => w'.cell? ⟨gb373, 0, none⟩ = some (.slice Ao32 t368.length co32)) (ds := []) #[false, false, false, false, false, false] (by kernel_rfl) rfl rfl ((blk_cell BK373.out 0).trans rfl) (fun hHeld => ?_)
  generalize w37.drew = w38 at HO370 BK366 BK367 BK373 HI0 HK HB hHeld ⊢
  refine pure_ (i := 1) (N := some 12) (v := ?_) (a' := ?_) #[false, true, false, false, false, false] rfl rfl (by kernel_rfl) (fun _ _ _ h => h) (Or.inl ⟨by rfl, ?_⟩) ?_ ?_
  rotate_left
  ·intro w'
   go_simp
   with_reducible rfl
  rotate_left
  ·simp only [Act.put, List.setIfInBounds_toArray, List.set_cons_zero, List.set_cons_succ, i64_w, i32_w]
   rfl
  refine take_ (i := 0) (N := some 11) (v := ?_) (a' := ?_) #[true, true, false, false, false, false] rfl rfl (by kernel_rfl) (fun _ _ _ h => h) (Or.inl ⟨by rfl, ?_⟩) hHeld ?_ ?_
  rotate_left
  ·intro w' s0
   go_simp
   with_reducible rfl
  rotate_left
  ·simp only [Act.put, List.setIfInBounds_toArray, List.set_cons_zero, List.set_cons_succ, i64_w, i32_w]
   rfl
  refine take_ (i := 2) (N := some 13) (v := ?_) (a' := ?_) #[true, true, true, false, false, false] rfl rfl (by kernel_rfl) (fun _ _ _ h => h) (Or.inl ⟨by rfl, ?_⟩) hHeld ?_ ?_
  rotate_left
  ·intro w' s0
   go_simp
   with_reducible rfl
  rotate_left
  ·simp only [Act.put, List.setIfInBounds_toArray, List.set_cons_zero, List.set_cons_succ, i64_w, i32_w]
   rfl
  refine one_ (i := 3) (N := some 14) #[true, true, true, true, false, false] rfl rfl (by kernel_rfl) (by decide) (fun K hK => ?_)
  refine goes_ Try.func103 (by kernel_rfl) rfl #[.pointer (some ⟨g, 0, none⟩), .agg #[.slice Ao32 t368.length co32]] (by rfl) rfl rfl (by (try simp only [List.map_toArray, List.map_cons, List.map_nil]); first | done | rfl | (simp only [List.length_drop, List.length_take]; rfl)) ?_
  with_reducible refine (spec_l6DrawMem.calls k g s0_0 t375 t376 _ _ t368 t388 t391 t392 t393 w0 _ ?side1 ?side2 ?side3 ?side4 A27.out).mono ?_
  (case side1 => exact si HI0.out)
  (case side2 => exact bi HB.out)
  (case side3 => exact (Kd.C_foot_own ((Kd.S_R (IsS107.apartS (show IsS107 w0 _ g s0_0 t375 t376 from si HI0.out) (ks HO370.out) (by decide)))) (fun _ h_ => h_.2) :))
  (case side4 => exact (Kd.S_reads' HO370.out).2.1)
  rintro e w39 ⟨v389, rfl, ho0, hi, hb, hk⟩
  refine ⟨_, rfl, ?_⟩
  have n0_ := Aside0.mk (KeepBut.blk hk (g' := gb366) (o := .cells #[.slice none 0 0] 29 (0, 0)) (kb BK366.out) NB366_0.out (by simp))
  have n1_ := Aside0.mk (KeepBut.blk hk (g' := gb367) (o := .cells #[.slice none 0 0, .int .i64 0] 32 (0, 0)) (kb BK367.out) NB367_0.out (by simp))
  have n2_ := Aside0.mk (Kd.S_mono (Kd.S_told (Kd.S_oldK (IsS107.apartS (show IsS107 w0 _ g s0_0 t375 t376 from si HI0.out) (ks HO370.out) (by decide)) hk) (Kd.Q_base ho0)) (fun _ h_ => h_.1))
  have n3_ := Aside0.mk (KeepBut.blk hk (g' := gb373) (o := .cells #[.slice Ao32 t368.length co32] 29 (0, 0)) (kb BK373.out) NB373_0.out (by simp))
  have n4_ := Aside0.mk (Kd.Q_lower ho0 (keep_size (w := w) (g := g) (row := none) (kp HK.out)))
  have n5_ := Aside0.mk (KeepBut.trans (kp HK.out) hk (.inl rfl))
  have n6_ := Aside0.mk (hb)
  have n7_ := Aside0.mk (hi)
  clear BK366; clear BK367; clear HO370; clear BK373; clear HK; clear HB; clear HI0; have BK366 := n0_; have BK367 := n1_; have HO370 := n2_; have BK373 := n3_; have HO390 := n4_; have HK := n5_; have HB := n6_; have HI0 := n7_; clear n0_ n1_ n2_ n3_ n4_ n5_ n6_ n7_; (try clear hb); (try clear hb2); (try clear hk); (try clear hi); (try clear ho0)
  obtain ⟨Ao41, co41, eo41, _⟩ := Kd.Q_slice HO390.out
  (first | subst eo41 | (injection eo41 with f1_ f2_ f3_; have f4_ := f1_.symm; have f5_ := f3_.symm; clear f1_ f2_ f3_; subst f4_; subst f5_))
  refine hK.out _ _ ((blk_cell BK373.out 0).trans rfl) (fun hHeld => ?_)
  clear hK K
  refine norm_ (a' := ?_) ?_ ?_
  rotate_left
  ·show Act.put _ (some 14) _ = _
   simp only [Act.put, List.setIfInBounds_toArray, List.set_cons_zero, List.set_cons_succ, i64_w, i32_w]
   rfl
  refine one_ (i := 4) (N := none) #[true, true, true, true, true, false] rfl rfl (by kernel_rfl) (by decide) (fun K hK => ?_)
  have hs40 : w39.cell? ⟨gb366, 0, none⟩ = some (.slice none 0 0) := (blk_cell BK366.out 0).trans rfl
  have hfs40 := blk_frozen BK366.out 0
  have hns40_1 := NB367_366.out
  have hns40_2 := NB373_366.out
  have hms40_1 := NB366_367.out
  have hms40_2 := NB366_373.out
  refine skip_ (w1 := ?_) (by rfl) rfl ?_ ?_
  rotate_left
  ·go_simp
   rfl
  refine hK.out _ _ (((cell_far (p := ⟨gb366, _, none⟩) NB373_366.out _).trans (hHeld))) (fun hHeld => ?_)
  clear hK K
  refine one_ (i := 5) (N := none) #[true, true, true, true, true, true] rfl rfl (by kernel_rfl) (by decide) (fun K hK => ?_)
  have hs42 : w39.cell? ⟨gb367, 0, none⟩ = some (.slice none 0 0) := (blk_cell BK367.out 0).trans rfl
  have hfs42 := blk_frozen BK367.out 0
  have hns42_0 := NB366_367.out
  have hns42_2 := NB373_367.out
  have hms42_0 := NB367_366.out
  have hms42_2 := NB367_373.out
  have hs43 : w39.cell? ⟨gb367, 1, none⟩ = some (.int .i64 0) := (blk_cell BK367.out 1).trans rfl
  have hfs43 := blk_frozen BK367.out 1
  have hns43_0 := NB366_367.out
  have hns43_2 := NB373_367.out
  have hms43_0 := NB367_366.out
  have hms43_2 := NB367_373.out
  refine skip_ (w1 := ?_) (by rfl) rfl ?_ ?_
  rotate_left
  ·go_simp
   rfl
  refine hK.out _ _ (((cell_far (p := ⟨gb367, _, none⟩) NB373_367.out _).trans (((cell_far (p := ⟨gb367, _, none⟩) NB373_367.out _).trans (hHeld))))) (fun hHeld => ?_)
  clear hK K
  refine done_ (by kernel_rfl) ?_
  try go_wp2
  refine bodyPost_ret (results_cc rfl _ _ gb366 gb367 29 32 #[.slice Ao32 t368.length co32] #[.slice Ao41 t388.length co41, .int .i64 t391] (0, 0) (0, 0) _ _ rfl (by (with_reducible repeat (first | refine blk_drewN ?_ _ | refine blk_drew ?_ | refine blk_alloc ?_ _)); refine blk_far ?_ NB366_367.out _; (with_reducible repeat (first | refine blk_drewN ?_ _ | refine blk_drew ?_ | refine blk_alloc ?_ _)); refine blk_far ?_ NB366_367.out _; (with_reducible repeat (first | refine blk_drewN ?_ _ | refine blk_drew ?_ | refine blk_alloc ?_ _)); refine blk_put (cs := #[.slice none 0 0]) ?_ 0 _ rfl; (with_reducible repeat (first | refine blk_drewN ?_ _ | refine blk_drew ?_ | refine blk_alloc ?_ _)); exact BK366.out) Try.underlying29 rfl (by kernel_rfl) rfl (by (with_reducible repeat (first | refine blk_drewN ?_ _ | refine blk_drew ?_ | refine blk_alloc ?_ _)); refine blk_put (cs := #[.slice Ao41 t388.length co41, .int .i64 0]) ?_ 1 _ rfl; (with_reducible repeat (first | refine blk_drewN ?_ _ | refine blk_drew ?_ | refine blk_alloc ?_ _)); refine blk_put (cs := #[.slice none 0 0, .int .i64 0]) ?_ 0 _ rfl; (with_reducible repeat (first | refine blk_drewN ?_ _ | refine blk_drew ?_ | refine blk_alloc ?_ _)); refine blk_far ?_ NB367_366.out _; (with_reducible repeat (first | refine blk_drewN ?_ _ | refine blk_drew ?_ | refine blk_alloc ?_ _)); exact BK367.out) Try.underlying32 rfl (by kernel_rfl)) rfl ?_
  exact ⟨_, _, rt, ks (Kd.S_mono (Kd.S_far (p := ⟨gb367, 1, none⟩) (Kd.S_far (p := ⟨gb367, 0, none⟩) (Kd.S_far (p := ⟨gb366, 0, none⟩) (Kd.S_types (Kd.S_types HO370.out BK366.out (by decide)) BK367.out (by decide)) (fun _ hk => hk.1.2) (.slice Ao32 t368.length co32)) (fun _ hk => hk.2) (.slice Ao41 t388.length co41)) (fun _ hk => hk.2) (.int .i64 t391)) (fun _ hk => hk.1.1.2)), kq (Kd.Q_mono (Kd.Q_far (p := ⟨gb367, 1, none⟩) (Kd.Q_far (p := ⟨gb367, 0, none⟩) (Kd.Q_far (p := ⟨gb366, 0, none⟩) (Kd.Q_types (Kd.Q_types HO390.out BK366.out (by decide)) BK367.out (by decide)) (fun _ hk => hk.1.2) (.slice Ao32 t368.length co32)) (fun _ hk => hk.2) (.slice Ao41 t388.length co41)) (fun _ hk => hk.2) (.int .i64 t391)) (fun _ hk => trivial)), si HI0.out, bi HB.out, kp HK.out⟩

/-! ### spec_l1DrawInt: function 75 -/
def spec_l1DrawInt.f (s0_0 : List Int) (s0_1 : Int) (s0_2 : Int) : Option (Int × Int × Int) := (spec_l1Once.f s0_0 s0_1 s0_2 9).bind fun bt394 => (if bt394.1 = true then ((spec_l1PickInt.f s0_0 bt394.2.1 bt394.2.2 (([(-1), 256, 65535, 65536, 9223372036854775807, (-9223372036854775808), 511] : List Int))).bind fun bt400 => (some (bt400.1, bt400.2.1, bt400.2.2))) else ((spec_l1Below.f s0_0 bt394.2.1 bt394.2.2 256).bind fun bt403 => (some (bt403.1, bt403.2.1, bt403.2.2))))
set_option maxHeartbeats 8000000 in
set_option maxRecDepth 100000 in
theorem spec_l1DrawInt.calls (g : Nat) (s0_0 : List Int) (s0_1 : Int) (s0_2 : Int) (r1 : Int) (r2 : Int) (r3 : Int) (w0 w : World) (hI : IsS107 w0 w g s0_0 s0_1 s0_2) (hB : Below w0.heap.size w0 w) (h : spec_l1DrawInt.f s0_0 s0_1 s0_2 = some (r1, r2, r3)) :
  Calls Try.prog 75 #[.pointer (some ⟨g, 0, none⟩)] w fun e w' => e = .returned (.int .i64 r1) ∧ IsS107 w0 w' g s0_0 r2 r3 ∧ Below w0.heap.size w0 w' ∧ KeepBut w w' g none := by
 have HI0 := Aside0.mk hI
 have HK := Aside0.mk (KeepBut.refl w g none)
 have HL := Aside0.mk hB.size
 clear hI
 have HW0 := Aside0.mk hB.size
 have HB := Aside0.mk hB
 clear hB
 have H : ((spec_l1Once.f s0_0 s0_1 s0_2 9).bind fun bt394 => (if bt394.1 = true then ((spec_l1PickInt.f s0_0 bt394.2.1 bt394.2.2 (([(-1), 256, 65535, 65536, 9223372036854775807, (-9223372036854775808), 511] : List Int))).bind fun bt400 => (some (bt400.1, bt400.2.1, bt400.2.2))) else ((spec_l1Below.f s0_0 bt394.2.1 bt394.2.2 256).bind fun bt403 => (some (bt403.1, bt403.2.1, bt403.2.2))))) = some (r1, r2, r3) := h
 clear h
 replace H := Option.bind_eq_some_iff.mp H
 obtain ⟨⟨t394, t395, t396⟩, A20, H⟩ := H
 replace H : (if t394 = true then ((spec_l1PickInt.f s0_0 t395 t396 (([(-1), 256, 65535, 65536, 9223372036854775807, (-9223372036854775808), 511] : List Int))).bind fun bt400 => (some (bt400.1, bt400.2.1, bt400.2.2))) else ((spec_l1Below.f s0_0 t395 t396 256).bind fun bt403 => (some (bt403.1, bt403.2.1, bt403.2.2)))) = some (r1, r2, r3) := H
 have A2 := Aside0.mk A20
 clear A20
 by_cases c3 : t394 = true
 ·subst c3
  have H1 : ((spec_l1PickInt.f s0_0 t395 t396 (([(-1), 256, 65535, 65536, 9223372036854775807, (-9223372036854775808), 511] : List Int))).bind fun bt400 => (some (bt400.1, bt400.2.1, bt400.2.2))) = some (r1, r2, r3) := by rw [if_pos rfl] at H; exact H
  clear H
  have H := H1
  clear H1
  obtain ⟨y397, hy397⟩ : ∃ y_ : List Int, y_ = (([(-1), 256, 65535, 65536, 9223372036854775807, (-9223372036854775808), 511] : List Int)) := ⟨_, rfl⟩
  replace H : ((spec_l1PickInt.f s0_0 t395 t396 y397).bind fun bt400 => (some (bt400.1, bt400.2.1, bt400.2.2))) = some (r1, r2, r3) := by first | (rw [hy397]; with_reducible exact H) | (have H2_ := (Option.bind_some _ _).symm.trans H; rw [hy397]; with_reducible exact H2_) | (have H2_ := (Option.bind_some _ _).symm.trans H; with_reducible exact H2_) | with_reducible exact H | (rw [hy397]; exact H) | exact H
  have Ny397 := Aside0.mk hy397
  clear hy397
  replace H := Option.bind_eq_some_iff.mp H
  obtain ⟨⟨t400, t401, t402⟩, A40, H⟩ := H
  replace H : (some (t400, t401, t402)) = some (r1, r2, r3) := H
  have A4 := Aside0.mk A40
  clear A40
  simp only [Option.some.injEq, Prod.mk.injEq] at H
  obtain ⟨rfl, rfl, rfl⟩ := H
  go_enter Try.func75, Try.ntmps75
  go_wp2_with (first | ((with_reducible refine gate_callee (f := 58) rfl ?_); refine goesM_ (some 4) rfl rfl Try.func58 #[.pointer (some ⟨g, 0, none⟩), .int .i64 9] ?_; (with_reducible refine (spec_l1Once.calls g s0_0 s0_1 s0_2 9 true t395 t396 w0 _ ?side1 ?side2 A2.out).mono ?_); (case side1 => exact si HI0.out); (case side2 => exact bi HB.out); rintro e w5 ⟨rfl, hi, hb, hk⟩; refine ⟨_, rfl, ?_⟩; have n0_ := Aside0.mk (KeepBut.trans (kp HK.out) hk (.inl rfl)); have n1_ := Aside0.mk (hb); have n2_ := Aside0.mk (hi); clear HK; clear HB; clear HI0; have HK := n0_; have HB := n1_; have HI0 := n2_; clear n0_ n1_ n2_; (try clear hb); (try clear hb2); (try clear hk); (try clear hi)) | ((with_reducible refine gate_dst (N := 6) rfl ?_); refine Kd.R_lit (Kd.int .i64) _ 3 ?hg (N := 6) ?hd (xs := ([(-1), 256, 65535, 65536, 9223372036854775807, (-9223372036854775808), 511] : List Int)) (inner := [.int .i64 (-1), .int .i64 256, .int .i64 65535, .int .i64 65536, .int .i64 9223372036854775807, .int .i64 (-9223372036854775808), .int .i64 511]) (ok := fun _ => True) (okp := fun _ => True) ?hr ?hp (fun _ hk => hk) trivial (Below.refl _ _) (Nat.le_refl _) (by simp) ?_; (case hd => rfl); (case hg => rfl); (case hr => first | (go_simp; done) | (go_simp; rfl)); (case hp => exact (Reps.one (show Kd.M (Kd.int .i64) _ _ _ (-1) [.int .i64 (-1)] from rfl) (Reps.one (show Kd.M (Kd.int .i64) _ _ _ 256 [.int .i64 256] from rfl) (Reps.one (show Kd.M (Kd.int .i64) _ _ _ 65535 [.int .i64 65535] from rfl) (Reps.one (show Kd.M (Kd.int .i64) _ _ _ 65536 [.int .i64 65536] from rfl) (Reps.one (show Kd.M (Kd.int .i64) _ _ _ 9223372036854775807 [.int .i64 9223372036854775807] from rfl) (Reps.one (show Kd.M (Kd.int .i64) _ _ _ (-9223372036854775808) [.int .i64 (-9223372036854775808)] from rfl) (Reps.one (show Kd.M (Kd.int .i64) _ _ _ 511 [.int .i64 511] from rfl) (Reps.none _ _))))))))); intro v398 w6 ho7 hb hg_ hnew_; clear hg_ hnew_; (first | rw [← Ny397.out] at ho7 | (simp only [Int.reduceToNat] at ho7; rw [← Ny397.out] at ho7)); have n0_ := Aside0.mk (Kd.R_lower ho7 (keep_size (w := w) (g := g) (row := none) (kp HK.out))); have n1_ := Aside0.mk (IsS107.below (si HI0.out) hb); have n2_ := Aside0.mk (KeepBut.trans (kp HK.out) (KeepBut.of_below hb g none) (.inl rfl)); have n3_ := Aside0.mk (below_step (bi HB.out) hb); clear HI0; clear HK; clear HB; have HO399 := n0_; have HI0 := n1_; have HK := n2_; have HB := n3_; clear n0_ n1_ n2_ n3_; clear hb ho7; obtain ⟨Ao8, co8, eo8⟩ := Kd.R_slice HO399.out; subst eo8) | ((with_reducible refine gate_callee (f := 70) rfl ?_); refine goesM_ (some 7) rfl rfl Try.func70 #[.pointer (some ⟨g, 0, none⟩), .slice Ao8 y397.length co8] ?_; (with_reducible refine (spec_l1PickInt.calls g s0_0 t395 t396 _ _ y397 t400 t401 t402 w0 _ ?side1 ?side2 ?side3 ?side4 ?side5 A4.out).mono ?_); (case side1 => exact si HI0.out); (case side2 => exact bi HB.out); (case side3 => repeat (first | exact (Kd.R_reads' HO399.out).2.2 | (with_reducible refine Kd.C_alloc ?_ _) | (with_reducible refine Kd.C_drewN ?_ _) | (with_reducible refine Kd.C_drew ?_))); (case side4 => exact (Kd.R_reads' HO399.out).2.1); (case side5 => exact far_slice (IsS107.own_ne HI0.out HO399.out (by decide))); rintro e w9 ⟨rfl, hi, hb, hk⟩; refine ⟨_, rfl, ?_⟩; have n0_ := Aside0.mk (Kd.R_mono (Kd.R_keep (IsS107.apart (show IsS107 w0 _ g s0_0 t395 t396 from si HI0.out) (kr HO399.out) (by decide)) hk (fun _ h => h.2)) (fun _ h => h.1)); have n1_ := Aside0.mk (KeepBut.trans (kp HK.out) hk (.inl rfl)); have n2_ := Aside0.mk (hb); have n3_ := Aside0.mk (hi); clear HO399; clear HK; clear HB; clear HI0; have HO399 := n0_; have HK := n1_; have HB := n2_; have HI0 := n3_; clear n0_ n1_ n2_ n3_; (try clear hb); (try clear hb2); (try clear hk); (try clear hi)))
  go_ret
  exact ⟨rt, si HI0.out, bi HB.out, kp HK.out⟩
 ·replace c3 := Bool.eq_false_iff.mpr c3
  subst c3
  have H1 : ((spec_l1Below.f s0_0 t395 t396 256).bind fun bt403 => (some (bt403.1, bt403.2.1, bt403.2.2))) = some (r1, r2, r3) := by rw [if_neg (show ¬ (false = true) by decide)] at H; exact H
  clear H
  have H := H1
  clear H1
  replace H := Option.bind_eq_some_iff.mp H
  obtain ⟨⟨t403, t404, t405⟩, A100, H⟩ := H
  replace H : (some (t403, t404, t405)) = some (r1, r2, r3) := H
  have A10 := Aside0.mk A100
  clear A100
  simp only [Option.some.injEq, Prod.mk.injEq] at H
  obtain ⟨rfl, rfl, rfl⟩ := H
  go_enter Try.func75, Try.ntmps75
  go_wp2_with (first | ((with_reducible refine gate_callee (f := 58) rfl ?_); refine goesM_ (some 4) rfl rfl Try.func58 #[.pointer (some ⟨g, 0, none⟩), .int .i64 9] ?_; (with_reducible refine (spec_l1Once.calls g s0_0 s0_1 s0_2 9 false t395 t396 w0 _ ?side1 ?side2 A2.out).mono ?_); (case side1 => exact si HI0.out); (case side2 => exact bi HB.out); rintro e w11 ⟨rfl, hi, hb, hk⟩; refine ⟨_, rfl, ?_⟩; have n0_ := Aside0.mk (KeepBut.trans (kp HK.out) hk (.inl rfl)); have n1_ := Aside0.mk (hb); have n2_ := Aside0.mk (hi); clear HK; clear HB; clear HI0; have HK := n0_; have HB := n1_; have HI0 := n2_; clear n0_ n1_ n2_; (try clear hb); (try clear hb2); (try clear hk); (try clear hi)) | ((with_reducible refine gate_callee (f := 60) rfl ?_); refine goesM_ (some 9) rfl rfl Try.func60 #[.pointer (some ⟨g, 0, none⟩), .int .i64 256] ?_; (with_reducible refine (spec_l1Below.calls g s0_0 t395 t396 256 t403 t404 t405 w0 _ ?side1 ?side2 A10.out).mono ?_); (case side1 => exact si HI0.out); (case side2 => exact bi HB.out); rintro e w12 ⟨rfl, hi, hb, hk⟩; refine ⟨_, rfl, ?_⟩; have n0_ := Aside0.mk (KeepBut.trans (kp HK.out) hk (.inl rfl)); have n1_ := Aside0.mk (hb); have n2_ := Aside0.mk (hi); clear HK; clear HB; clear HI0; have HK := n0_; have HB := n1_; have HI0 := n2_; clear n0_ n1_ n2_; (try clear hb); (try clear hb2); (try clear hk); (try clear hi)))
  go_ret
  exact ⟨rt, si HI0.out, bi HB.out, kp HK.out⟩

/-! ### spec_DrawPoke: function 29 -/
def spec_DrawPoke.f (k : Nat) (l0 : List Int) : Option ((List (List Int)) × List Int × Int × Int × Int) := (spec_l1New.f k l0).bind fun bt408 => ((spec_l6Draw.f k bt408.1 bt408.2.1 bt408.2.2).bind fun bt412 => ((spec_l6DrawAddr.f bt408.1 bt412.2.2.2.1 bt412.2.2.2.2).bind fun bt423 => ((spec_l1DrawInt.f bt408.1 bt423.2.1 bt423.2.2).bind fun bt426 => (some (bt412.1, bt412.2.1, bt412.2.2.1, bt423.1, bt426.1)))))
theorem spec_DrawPoke.mono : ∀ a0 k, LeO (spec_DrawPoke.f k a0) (spec_DrawPoke.f (k + 1) a0) := by
 intro a0 k
 unfold spec_DrawPoke.f
 repeat' first
   | (with_reducible exact spec_l1New.mono _ _)
   | (with_reducible exact spec_l6Draw.mono _ _ _ _)
   | (with_reducible exact LeO.refl _)
   | (with_reducible exact LeO.none _)
   | (with_reducible refine LeO.ite ?_ ?_)
   | (with_reducible refine LeO.bind ?_ (fun _ => ?_))
   | exact spec_l1New.mono _ _
   | exact spec_l6Draw.mono _ _ _ _
   | exact LeO.none _
   | refine LeO.ite ?_ ?_
   | refine LeO.bind ?_ (fun _ => ?_)
def spec_DrawPoke.T4 : Bool × List (List Nat × List Nat) := (true, [([], []), ([], []), ([], []), ([], []), ([3], [3]), ([0, 4, 0], [0]), ([1, 5, 0, 1, 5], [1]), ([2, 6, 0, 1, 2, 5, 6], [2]), ([4, 7, 0, 1, 2, 3, 4, 5, 6, 7], [4])])
def spec_DrawPoke.B4 : List Nat := [0, 0, 0, 0, 8, 25, 59, 127, 255]
theorem spec_DrawPoke.tab4 : rtab .any (opsOf Try.f29 4) = spec_DrawPoke.T4 := by kernel_rfl
theorem spec_DrawPoke.bits4 : waitsOk spec_DrawPoke.T4.2 spec_DrawPoke.B4 = true := by kernel_rfl
set_option maxHeartbeats 8000000 in
set_option maxRecDepth 100000 in
theorem spec_DrawPoke.calls (k : Nat) (A0 : Option Addr) (c0 : Nat) (l0 : List Int) (r1 : List (List Int)) (r2 : List Int) (r3 : Int) (r4 : Int) (r5 : Int) (w : World) (hr0 : Kd.C (Kd.int .u8) w A0 l0.length l0) (hc0 : l0.length ≤ c0) (h : spec_DrawPoke.f k l0 = some (r1, r2, r3, r4, r5)) :
  Calls Try.prog 29 #[.slice A0 l0.length c0] w fun e w' => ∃ v0_ v1_ : Value, e = .returned (.tuple #[.agg #[v0_], .agg #[v1_, .int .i64 r3], .int .i64 r4, .int .i64 r5]) ∧ Kd.S (cutK 3 (Kd.int .i64)) 30 w' w.heap.size (fun k_ => some k_ ≠ (v1_ : Value).ownBlock) v0_ r1 ∧ Kd.Q (Kd.int .i64) 3 w' w.heap.size (fun _ => True) v1_ r2 ∧ Below w.heap.size w w' := by
 have hu29 := Try.underlying29
 have hu32 := Try.underlying32
 have HR0 := Aside0.mk hr0
 have HC0 := Aside0.mk hc0
 clear hr0 hc0
 have HB := Aside0.mk (Below.refl w.heap.size w)
 have H : ((spec_l1New.f k l0).bind fun bt408 => ((spec_l6Draw.f k bt408.1 bt408.2.1 bt408.2.2).bind fun bt412 => ((spec_l6DrawAddr.f bt408.1 bt412.2.2.2.1 bt412.2.2.2.2).bind fun bt423 => ((spec_l1DrawInt.f bt408.1 bt423.2.1 bt423.2.2).bind fun bt426 => (some (bt412.1, bt412.2.1, bt412.2.2.1, bt423.1, bt426.1)))))) = some (r1, r2, r3, r4, r5) := h
 clear h
 replace H := Option.bind_eq_some_iff.mp H
 obtain ⟨⟨t408, t409, t410⟩, A20, H⟩ := H
 replace H : ((spec_l6Draw.f k t408 t409 t410).bind fun bt412 => ((spec_l6DrawAddr.f t408 bt412.2.2.2.1 bt412.2.2.2.2).bind fun bt423 => ((spec_l1DrawInt.f t408 bt423.2.1 bt423.2.2).bind fun bt426 => (some (bt412.1, bt412.2.1, bt412.2.2.1, bt423.1, bt426.1))))) = some (r1, r2, r3, r4, r5) := H
 have A2 := Aside0.mk A20
 clear A20
 replace H := Option.bind_eq_some_iff.mp H
 obtain ⟨⟨t412, t415, t418, t419, t420⟩, A30, H⟩ := H
 replace H : ((spec_l6DrawAddr.f t408 t419 t420).bind fun bt423 => ((spec_l1DrawInt.f t408 bt423.2.1 bt423.2.2).bind fun bt426 => (some (t412, t415, t418, bt423.1, bt426.1)))) = some (r1, r2, r3, r4, r5) := H
 have A3 := Aside0.mk A30
 clear A30
 replace H := Option.bind_eq_some_iff.mp H
 obtain ⟨⟨t423, t424, t425⟩, A40, H⟩ := H
 replace H : ((spec_l1DrawInt.f t408 t424 t425).bind fun bt426 => (some (t412, t415, t418, t423, bt426.1))) = some (r1, r2, r3, r4, r5) := H
 have A4 := Aside0.mk A40
 clear A40
 replace H := Option.bind_eq_some_iff.mp H
 obtain ⟨⟨t426, t427, t428⟩, A50, H⟩ := H
 replace H : (some (t412, t415, t418, t423, t426)) = some (r1, r2, r3, r4, r5) := H
 have A5 := Aside0.mk A50
 clear A50
 simp only [Option.some.injEq, Prod.mk.injEq] at H
 obtain ⟨rfl, rfl, rfl, rfl, rfl⟩ := H
 go_enter Try.func29, Try.ntmps29
 try go_wp2_with (first | ((with_reducible refine gate_dst (N := 2) rfl ?_); refine bx (N := 2) (cs := #[.slice none 0 0]) (t := 29) ?_; intro gb406 hg w6 hbox hb; have n0_ := Aside0.mk (below_step (bw HB.out) hb); have n1_ := Aside0.mk (hbox); have n2_ := Aside0.mk ((gs hg (bw HB.out))); have n3_ := Aside0.mk ((gs hg (bw HB.out))); clear HB; have HB := n0_; have BK406 := n1_; have GW406 := n2_; have GE406 := n3_; clear n0_ n1_ n2_ n3_; clear hb hbox hg) | ((with_reducible refine gate_dst (N := 3) rfl ?_); refine bx (N := 3) (cs := #[.slice none 0 0, .int .i64 0]) (t := 32) ?_; intro gb407 hg w7 hbox hb; have n0_ := Aside0.mk (blk_below (g := gb406) (o := .cells #[.slice none 0 0] 29 (0, 0)) (kb BK406.out) hb); have n1_ := Aside0.mk (below_step (bw HB.out) hb); have n2_ := Aside0.mk (hbox); have n3_ := Aside0.mk ((gs hg (bw HB.out))); have n4_ := Aside0.mk ((gs hg (bw HB.out))); have n5_ := Aside0.mk ((ga hg BK406.out)); have n6_ := Aside0.mk ((gc hg BK406.out)); clear BK406; clear HB; have BK406 := n0_; have HB := n1_; have BK407 := n2_; have GW407 := n3_; have GE407 := n4_; have NB406_407 := n5_; have NB407_406 := n6_; clear n0_ n1_ n2_ n3_ n4_ n5_ n6_; clear hb hbox hg) | ((with_reducible refine gate_callee (f := 57) rfl ?_); refine goesM_ (some 11) rfl rfl Try.func57 #[.slice A0 l0.length c0] ?_; (with_reducible refine (spec_l1New.calls k _ _ l0 t408 t409 t410 w _ ?side1 ?side2 ?side3 A2.out).mono ?_); (case side1 => exact bw HB.out); (case side2 => exact HR0.out); (case side3 => exact HC0.out); rintro e w8 ⟨g411, rfl, hi, hb, hb2⟩; refine ⟨_, rfl, ?_⟩; have n0_ := Aside0.mk (blk_below (g := gb406) (o := .cells #[.slice none 0 0] 29 (0, 0)) (kb BK406.out) hb2); have n1_ := Aside0.mk (blk_below (g := gb407) (o := .cells #[.slice none 0 0, .int .i64 0] 32 (0, 0)) (kb BK407.out) hb2); have n2_ := Aside0.mk (hb); have n3_ := Aside0.mk (hi); have n4_ := Aside0.mk (IsS107.ne_blk hi (blk_below (g := gb406) (o := .cells #[.slice none 0 0] 29 (0, 0)) (kb BK406.out) hb2) (by decide)); have n5_ := Aside0.mk (Ne.symm (IsS107.ne_blk hi (blk_below (g := gb406) (o := .cells #[.slice none 0 0] 29 (0, 0)) (kb BK406.out) hb2) (by decide))); have n6_ := Aside0.mk (IsS107.ne_blk hi (blk_below (g := gb407) (o := .cells #[.slice none 0 0, .int .i64 0] 32 (0, 0)) (kb BK407.out) hb2) (by decide)); have n7_ := Aside0.mk (Ne.symm (IsS107.ne_blk hi (blk_below (g := gb407) (o := .cells #[.slice none 0 0, .int .i64 0] 32 (0, 0)) (kb BK407.out) hb2) (by decide))); clear BK406; clear BK407; clear HB; have BK406 := n0_; have BK407 := n1_; have HB := n2_; have HI411 := n3_; have NB411_406 := n4_; have NB406_411 := n5_; have NB411_407 := n6_; have NB407_411 := n7_; clear n0_ n1_ n2_ n3_ n4_ n5_ n6_ n7_; (try clear hb); (try clear hb2); (try clear hk); (try clear hi)) | ((with_reducible refine gate_callee (f := 62) rfl ?_); refine goesM_ (some 14) rfl rfl Try.func62 #[.pointer (some ⟨g411, 0, none⟩)] ?_; (with_reducible refine (spec_l6Draw.calls k g411 t408 t409 t410 t412 t415 t418 t419 t420 w _ ?side1 ?side2 A3.out).mono ?_); (case side1 => exact si HI411.out); (case side2 => exact bi HB.out); rintro e w9 ⟨v413, v416, rfl, ho0, ho1, hi, hb, hk⟩; refine ⟨_, rfl, ?_⟩; have n0_ := Aside0.mk (KeepBut.blk hk (g' := gb406) (o := .cells #[.slice none 0 0] 29 (0, 0)) (kb BK406.out) NB406_411.out (by simp)); have n1_ := Aside0.mk (KeepBut.blk hk (g' := gb407) (o := .cells #[.slice none 0 0, .int .i64 0] 32 (0, 0)) (kb BK407.out) NB407_411.out (by simp)); have n2_ := Aside0.mk (Kd.S_lower ho0 (below_size (bi HB.out))); have n3_ := Aside0.mk (Kd.Q_lower ho1 (below_size (bi HB.out))); have n4_ := Aside0.mk (hb); have n5_ := Aside0.mk (hi); clear BK406; clear BK407; clear HB; clear HI411; have BK406 := n0_; have BK407 := n1_; have HO414 := n2_; have HO417 := n3_; have HB := n4_; have HI411 := n5_; clear n0_ n1_ n2_ n3_ n4_ n5_; (try clear hb); (try clear hb2); (try clear hk); (try clear hi); (try clear ho0); (try clear ho1)) | ((with_reducible refine gate_dst (N := 7) rfl ?_); refine bx (N := 7) (cs := #[.slice none 0 0]) (t := 29) ?_; intro gb421 hg w10 hbox hb; have n0_ := Aside0.mk (Kd.S_below (ks HO414.out) hb); have n1_ := Aside0.mk (Kd.Q_below (kq HO417.out) hb); have n2_ := Aside0.mk (blk_below (g := gb406) (o := .cells #[.slice none 0 0] 29 (0, 0)) (kb BK406.out) hb); have n3_ := Aside0.mk (blk_below (g := gb407) (o := .cells #[.slice none 0 0, .int .i64 0] 32 (0, 0)) (kb BK407.out) hb); have n4_ := Aside0.mk (IsS107.below (si HI411.out) hb); have n5_ := Aside0.mk (below_step (bi HB.out) hb); have n6_ := Aside0.mk (hbox); have n7_ := Aside0.mk ((gs hg (bi HB.out))); have n8_ := Aside0.mk ((gs hg (bi HB.out))); have n9_ := Aside0.mk ((ga hg BK406.out)); have n10_ := Aside0.mk ((gc hg BK406.out)); have n11_ := Aside0.mk ((ga hg BK407.out)); have n12_ := Aside0.mk ((gc hg BK407.out)); have n13_ := Aside0.mk ((by rw [hg]; exact Nat.ne_of_lt (IsS107.lt (show IsS107 w _ g411 t408 t419 t420 from si HI411.out)) : g411 ≠ gb421)); have n14_ := Aside0.mk ((by rw [hg]; exact Nat.ne_of_gt (IsS107.lt (show IsS107 w _ g411 t408 t419 t420 from si HI411.out)) : gb421 ≠ g411)); clear HO414; clear HO417; clear BK406; clear BK407; clear HI411; clear HB; have HO414 := n0_; have HO417 := n1_; have BK406 := n2_; have BK407 := n3_; have HI411 := n4_; have HB := n5_; have BK421 := n6_; have GW421 := n7_; have GE421 := n8_; have NB406_421 := n9_; have NB421_406 := n10_; have NB407_421 := n11_; have NB421_407 := n12_; have NB411_421 := n13_; have NB421_411 := n14_; clear n0_ n1_ n2_ n3_ n4_ n5_ n6_ n7_ n8_ n9_ n10_ n11_ n12_ n13_ n14_; clear hb hbox hg) | ((with_reducible refine gate_dst (N := 8) rfl ?_); refine bx (N := 8) (cs := #[.slice none 0 0, .int .i64 0]) (t := 32) ?_; intro gb422 hg w11 hbox hb; have n0_ := Aside0.mk (Kd.S_below (ks HO414.out) hb); have n1_ := Aside0.mk (Kd.Q_below (kq HO417.out) hb); have n2_ := Aside0.mk (blk_below (g := gb406) (o := .cells #[.slice none 0 0] 29 (0, 0)) (kb BK406.out) hb); have n3_ := Aside0.mk (blk_below (g := gb407) (o := .cells #[.slice none 0 0, .int .i64 0] 32 (0, 0)) (kb BK407.out) hb); have n4_ := Aside0.mk (IsS107.below (si HI411.out) hb); have n5_ := Aside0.mk (blk_below (g := gb421) (o := .cells #[.slice none 0 0] 29 (0, 0)) (kb BK421.out) hb); have n6_ := Aside0.mk (below_step (bi HB.out) hb); have n7_ := Aside0.mk (hbox); have n8_ := Aside0.mk ((gs hg (bi HB.out))); have n9_ := Aside0.mk ((gs hg (bi HB.out))); have n10_ := Aside0.mk ((ga hg BK406.out)); have n11_ := Aside0.mk ((gc hg BK406.out)); have n12_ := Aside0.mk ((ga hg BK407.out)); have n13_ := Aside0.mk ((gc hg BK407.out)); have n14_ := Aside0.mk ((ga hg BK421.out)); have n15_ := Aside0.mk ((gc hg BK421.out)); have n16_ := Aside0.mk ((by rw [hg]; exact Nat.ne_of_lt (IsS107.lt (show IsS107 w _ g411 t408 t419 t420 from si HI411.out)) : g411 ≠ gb422)); have n17_ := Aside0.mk ((by rw [hg]; exact Nat.ne_of_gt (IsS107.lt (show IsS107 w _ g411 t408 t419 t420 from si HI411.out)) : gb422 ≠ g411)); clear HO414; clear HO417; clear BK406; clear BK407; clear HI411; clear BK421; clear HB; have HO414 := n0_; have HO417 := n1_; have BK406 := n2_; have BK407 := n3_; have HI411 := n4_; have BK421 := n5_; have HB := n6_; have BK422 := n7_; have GW422 := n8_; have GE422 := n9_; have NB406_422 := n10_; have NB422_406 := n11_; have NB407_422 := n12_; have NB422_407 := n13_; have NB421_422 := n14_; have NB422_421 := n15_; have NB411_422 := n16_; have NB422_411 := n17_; clear n0_ n1_ n2_ n3_ n4_ n5_ n6_ n7_ n8_ n9_ n10_ n11_ n12_ n13_ n14_ n15_ n16_ n17_; clear hb hbox hg; obtain ⟨Ao12, co12, eo12⟩ := Kd.S_slice HO414.out; subst eo12; have hnb13 := NB421_406.out; have hnc13 := NB406_421.out; have hnb14 := NB421_407.out; have hnc14 := NB407_421.out; have hnb15 := NB421_422.out; have hnc15 := NB422_421.out; have hnb16 := NB421_411.out; have hnc16 := NB411_421.out; have hcz17_0 : w11.cell? ⟨gb421, 0, none⟩ = some (.slice none 0 0) := (blk_cell BK421.out 0).trans rfl; have hfz17_0 := blk_frozen BK421.out 0; obtain ⟨Ao18, co18, eo18, _⟩ := Kd.Q_slice HO417.out; subst eo18; have hnb19 := NB422_406.out; have hnc19 := NB406_422.out; have hnb20 := NB422_407.out; have hnc20 := NB407_422.out; have hnb21 := NB422_411.out; have hnc21 := NB411_422.out; have hcz22_0 : w11.cell? ⟨gb422, 0, none⟩ = some (.slice none 0 0) := (blk_cell BK422.out 0).trans rfl; have hcz22_1 : w11.cell? ⟨gb422, 1, none⟩ = some (.int .i64 0) := (blk_cell BK422.out 1).trans rfl; have hfz22_0 := blk_frozen BK422.out 0; have hfz22_1 := blk_frozen BK422.out 1) | ((with_reducible refine gate_callee (f := 59) rfl ?_); refine goesM_ (some 18) rfl rfl Try.func59 #[.pointer (some ⟨g411, 0, none⟩)] ?_; (with_reducible refine (spec_l6DrawAddr.calls g411 t408 t419 t420 t423 t424 t425 w _ ?side1 ?side2 A4.out).mono ?_); (case side1 => exact si HI411.out); (case side2 => exact bi HB.out); rintro e w23 ⟨rfl, hi, hb, hk⟩; refine ⟨_, rfl, ?_⟩; have n0_ := Aside0.mk (KeepBut.blk hk (g' := gb406) (o := .cells #[.slice none 0 0] 29 (0, 0)) (kf BK406.out) NB406_411.out (by simp)); have n1_ := Aside0.mk (KeepBut.blk hk (g' := gb407) (o := .cells #[.slice none 0 0, .int .i64 0] 32 (0, 0)) (kf BK407.out) NB407_411.out (by simp)); have n2_ := Aside0.mk (Kd.S_mono (Kd.S_keep (IsS107.apartS (show IsS107 w _ g411 t408 t419 t420 from si HI411.out) (ks ((Kd.S_mono (Kd.S_mono (Kd.S_far (p := ⟨gb422, 1, none⟩) (Kd.S_far (p := ⟨gb422, 0, none⟩) (Kd.S_far (p := ⟨gb421, 0, none⟩) (Kd.S_types (Kd.S_types HO414.out BK421.out (by decide)) BK422.out (by decide)) (fun _ hk => hk.1.2) (.slice Ao12 t412.length co12)) (fun _ hk => hk.2) (.slice Ao18 t415.length co18)) (fun _ hk => hk.2) (.int .i64 t418)) (fun _ h_ => h_.1)) (fun _ h_ => h_.1)))) (by decide)) hk (fun _ h => h.2)) (fun _ h => h.1)); have n3_ := Aside0.mk (Kd.Q_mono (Kd.Q_keep (IsS107.apartQ (show IsS107 w _ g411 t408 t419 t420 from si HI411.out) (kq ((Kd.Q_mono (Kd.Q_mono (Kd.Q_far (p := ⟨gb422, 1, none⟩) (Kd.Q_far (p := ⟨gb422, 0, none⟩) (Kd.Q_far (p := ⟨gb421, 0, none⟩) (Kd.Q_types (Kd.Q_types HO417.out BK421.out (by decide)) BK422.out (by decide)) (fun _ hk => hk.1.2) (.slice Ao12 t412.length co12)) (fun _ hk => hk.2) (.slice Ao18 t415.length co18)) (fun _ hk => hk.2) (.int .i64 t418)) (fun _ h_ => h_.1)) (fun _ h_ => h_.1)))) (by decide)) hk (fun _ h => h.2)) (fun _ h => h.1)); have n4_ := Aside0.mk (KeepBut.blk hk (g' := gb421) (o := .cells #[.slice Ao12 t412.length co12] 29 (0, 0)) (by (with_reducible repeat (first | refine blk_drewN ?_ _ | refine blk_drew ?_ | refine blk_alloc ?_ _)); refine blk_far ?_ NB421_422.out _; (with_reducible repeat (first | refine blk_drewN ?_ _ | refine blk_drew ?_ | refine blk_alloc ?_ _)); refine blk_far ?_ NB421_422.out _; (with_reducible repeat (first | refine blk_drewN ?_ _ | refine blk_drew ?_ | refine blk_alloc ?_ _)); refine blk_put (cs := #[.slice none 0 0]) ?_ 0 _ rfl; (with_reducible repeat (first | refine blk_drewN ?_ _ | refine blk_drew ?_ | refine blk_alloc ?_ _)); exact BK421.out) NB421_411.out (by simp)); have n5_ := Aside0.mk (KeepBut.blk hk (g' := gb422) (o := .cells #[.slice Ao18 t415.length co18, .int .i64 t418] 32 (0, 0)) (by (with_reducible repeat (first | refine blk_drewN ?_ _ | refine blk_drew ?_ | refine blk_alloc ?_ _)); refine blk_put (cs := #[.slice Ao18 t415.length co18, .int .i64 0]) ?_ 1 _ rfl; (with_reducible repeat (first | refine blk_drewN ?_ _ | refine blk_drew ?_ | refine blk_alloc ?_ _)); refine blk_put (cs := #[.slice none 0 0, .int .i64 0]) ?_ 0 _ rfl; (with_reducible repeat (first | refine blk_drewN ?_ _ | refine blk_drew ?_ | refine blk_alloc ?_ _)); refine blk_far ?_ NB422_421.out _; (with_reducible repeat (first | refine blk_drewN ?_ _ | refine blk_drew ?_ | refine blk_alloc ?_ _)); exact BK422.out) NB422_411.out (by simp)); have n6_ := Aside0.mk (hb); have n7_ := Aside0.mk (hi); clear BK406; clear BK407; clear HO414; clear HO417; clear BK421; clear BK422; clear HB; clear HI411; have BK406 := n0_; have BK407 := n1_; have HO414 := n2_; have HO417 := n3_; have BK421 := n4_; have BK422 := n5_; have HB := n6_; have HI411 := n7_; clear n0_ n1_ n2_ n3_ n4_ n5_ n6_ n7_; (try clear hb); (try clear hb2); (try clear hk); (try clear hi)))
 have n0_ := Aside0.mk (Kd.S_drew HO414.out)
 have n1_ := Aside0.mk (Kd.Q_drew HO417.out)
 have n2_ := Aside0.mk (blk_drew BK406.out)
 have n3_ := Aside0.mk (blk_drew BK407.out)
 have n4_ := Aside0.mk (blk_drew BK421.out)
 have n5_ := Aside0.mk (blk_drew BK422.out)
 have n6_ := Aside0.mk (IsS107.drew HI411.out)
 have n7_ := Aside0.mk (below_drew1 HB.out)
 clear HO414; clear HO417; clear BK406; clear BK407; clear BK421; clear BK422; clear HI411; clear HB; have HO414 := n0_; have HO417 := n1_; have BK406 := n2_; have BK407 := n3_; have BK421 := n4_; have BK422 := n5_; have HI411 := n6_; have HB := n7_; clear n0_ n1_ n2_ n3_ n4_ n5_ n6_ n7_
 refine start_ (n := 9) (S := fun w' => w'.cell? ⟨gb421, 0, none⟩ = some (.slice Ao12 t412.length co12) ∧ w'.cell? ⟨gb422, 0, none⟩ = some (.slice Ao18 t415.length co18) ∧ w'.cell? ⟨gb422, 1, none⟩ = some (.int .i64 t418)) (ds := []) #[false, false, false, false, false, false, false, false, false] (by kernel_rfl) rfl rfl ⟨(blk_cell BK421.out 0).trans rfl, (blk_cell BK422.out 0).trans rfl, (blk_cell BK422.out 1).trans rfl⟩ (fun hHeld => ?_); refine with_tabW spec_DrawPoke.tab4 spec_DrawPoke.bits4 (fun HT_ HW_ => ?_)
 generalize w23.drew = w24 at HO414 HO417 BK406 BK407 BK421 BK422 HI411 HB hHeld ⊢
 refine pure_ (i := 2) (N := some 21) (v := ?_) (a' := ?_) #[false, false, true, false, false, false, false, false, false] rfl rfl (any_of HT_.out (by kernel_rfl)) (fun _ _ _ h => h) (Or.inl ⟨by rfl, ?_⟩) ?_ ?_
 rotate_left
 ·intro w'
  go_simp
  with_reducible rfl
 rotate_left
 ·simp only [Act.put, List.setIfInBounds_toArray, List.set_cons_zero, List.set_cons_succ, i64_w, i32_w]
  rfl
 refine pure_ (i := 3) (N := some 22) (v := ?_) (a' := ?_) #[false, false, true, true, false, false, false, false, false] rfl rfl (any_of HT_.out (by kernel_rfl)) (fun _ _ _ h => h) (Or.inl ⟨by rfl, ?_⟩) ?_ ?_
 rotate_left
 ·intro w'
  go_simp
  with_reducible rfl
 rotate_left
 ·simp only [Act.put, List.setIfInBounds_toArray, List.set_cons_zero, List.set_cons_succ, i64_w, i32_w]
  rfl
 refine take_ (i := 0) (N := some 19) (v := ?_) (a' := ?_) #[true, false, true, true, false, false, false, false, false] rfl rfl (take_ofW HT_.out HW_.out (by kernel_rfl)) (fun _ _ _ h => h) (Or.inl ⟨by rfl, ?_⟩) hHeld ?_ ?_
 rotate_left
 ·rintro w' ⟨s0, s1, s2⟩
  go_simp
  with_reducible rfl
 rotate_left
 ·simp only [Act.put, List.setIfInBounds_toArray, List.set_cons_zero, List.set_cons_succ, i64_w, i32_w]
  rfl
 refine take_ (i := 1) (N := some 20) (v := ?_) (a' := ?_) #[true, true, true, true, false, false, false, false, false] rfl rfl (take_ofW HT_.out HW_.out (by kernel_rfl)) (fun _ _ _ h => h) (Or.inl ⟨by rfl, ?_⟩) hHeld ?_ ?_
 rotate_left
 ·rintro w' ⟨s0, s1, s2⟩
  go_simp
  with_reducible rfl
 rotate_left
 ·simp only [Act.put, List.setIfInBounds_toArray, List.set_cons_zero, List.set_cons_succ, i64_w, i32_w]
  rfl
 refine one_ (i := 4) (N := some 23) #[true, true, true, true, true, false, false, false, false] rfl rfl (one_of HT_.out (by kernel_rfl)) (by decide) (fun K hK => ?_)
 refine goes_ Try.func75 (by kernel_rfl) rfl #[.pointer (some ⟨g411, 0, none⟩)] (by rfl) rfl rfl (by (try simp only [List.map_toArray, List.map_cons, List.map_nil]); first | done | rfl | (simp only [List.length_drop, List.length_take]; rfl)) ?_
 with_reducible refine (spec_l1DrawInt.calls g411 t408 t424 t425 t426 t427 t428 w _ ?side1 ?side2 A5.out).mono ?_
 (case side1 => exact si HI411.out)
 (case side2 => exact bi HB.out)
 rintro e w25 ⟨rfl, hi, hb, hk⟩
 refine ⟨_, rfl, ?_⟩
 have n0_ := Aside0.mk (KeepBut.blk hk (g' := gb406) (o := .cells #[.slice none 0 0] 29 (0, 0)) (kb BK406.out) NB406_411.out (by simp))
 have n1_ := Aside0.mk (KeepBut.blk hk (g' := gb407) (o := .cells #[.slice none 0 0, .int .i64 0] 32 (0, 0)) (kb BK407.out) NB407_411.out (by simp))
 have n2_ := Aside0.mk (Kd.S_mono (Kd.S_keep (IsS107.apartS (show IsS107 w _ g411 t408 t424 t425 from si HI411.out) (ks HO414.out) (by decide)) hk (fun _ h => h.2)) (fun _ h => h.1))
 have n3_ := Aside0.mk (Kd.Q_mono (Kd.Q_keep (IsS107.apartQ (show IsS107 w _ g411 t408 t424 t425 from si HI411.out) (kq HO417.out) (by decide)) hk (fun _ h => h.2)) (fun _ h => h.1))
 have n4_ := Aside0.mk (KeepBut.blk hk (g' := gb421) (o := .cells #[.slice Ao12 t412.length co12] 29 (0, 0)) (kb BK421.out) NB421_411.out (by simp))
 have n5_ := Aside0.mk (KeepBut.blk hk (g' := gb422) (o := .cells #[.slice Ao18 t415.length co18, .int .i64 t418] 32 (0, 0)) (kb BK422.out) NB422_411.out (by simp))
 have n6_ := Aside0.mk (hb)
 have n7_ := Aside0.mk (hi)
 clear BK406; clear BK407; clear HO414; clear HO417; clear BK421; clear BK422; clear HB; clear HI411; have BK406 := n0_; have BK407 := n1_; have HO414 := n2_; have HO417 := n3_; have BK421 := n4_; have BK422 := n5_; have HB := n6_; have HI411 := n7_; clear n0_ n1_ n2_ n3_ n4_ n5_ n6_ n7_; (try clear hb); (try clear hb2); (try clear hk); (try clear hi)
 refine hK.out _ _ ⟨(blk_cell BK421.out 0).trans rfl, (blk_cell BK422.out 0).trans rfl, (blk_cell BK422.out 1).trans rfl⟩ (fun hHeld => ?_)
 clear hK K
 refine norm_ (a' := ?_) ?_ ?_
 rotate_left
 ·show Act.put _ (some 23) _ = _
  simp only [Act.put, List.setIfInBounds_toArray, List.set_cons_zero, List.set_cons_succ, i64_w, i32_w]
  rfl
 refine one_ (i := 5) (N := none) #[true, true, true, true, true, true, false, false, false] rfl rfl (one_of HT_.out (by kernel_rfl)) (by decide) (fun K hK => ?_)
 have hs26 : w25.cell? ⟨gb406, 0, none⟩ = some (.slice none 0 0) := (blk_cell BK406.out 0).trans rfl
 have hfs26 := blk_frozen BK406.out 0
 have hns26_1 := NB407_406.out
 have hns26_2 := NB421_406.out
 have hns26_3 := NB422_406.out
 have hms26_1 := NB406_407.out
 have hms26_2 := NB406_421.out
 have hms26_3 := NB406_422.out
 refine skip_ (w1 := ?_) (by rfl) rfl ?_ ?_
 rotate_left
 ·go_simp
  rfl
 refine hK.out _ _ ⟨((cell_far (p := ⟨gb406, _, none⟩) NB421_406.out _).trans (hHeld.1)), ((cell_far (p := ⟨gb406, _, none⟩) NB422_406.out _).trans (hHeld.2.1)), ((cell_far (p := ⟨gb406, _, none⟩) NB422_406.out _).trans (hHeld.2.2))⟩ (fun hHeld => ?_)
 clear hK K
 refine one_ (i := 6) (N := none) #[true, true, true, true, true, true, true, false, false] rfl rfl (one_of HT_.out (by kernel_rfl)) (by decide) (fun K hK => ?_)
 have hs27 : w25.cell? ⟨gb407, 0, none⟩ = some (.slice none 0 0) := (blk_cell BK407.out 0).trans rfl
 have hfs27 := blk_frozen BK407.out 0
 have hns27_0 := NB406_407.out
 have hns27_2 := NB421_407.out
 have hns27_3 := NB422_407.out
 have hms27_0 := NB407_406.out
 have hms27_2 := NB407_421.out
 have hms27_3 := NB407_422.out
 have hs28 : w25.cell? ⟨gb407, 1, none⟩ = some (.int .i64 0) := (blk_cell BK407.out 1).trans rfl
 have hfs28 := blk_frozen BK407.out 1
 have hns28_0 := NB406_407.out
 have hns28_2 := NB421_407.out
 have hns28_3 := NB422_407.out
 have hms28_0 := NB407_406.out
 have hms28_2 := NB407_421.out
 have hms28_3 := NB407_422.out
 refine skip_ (w1 := ?_) (by rfl) rfl ?_ ?_
 rotate_left
 ·go_simp
  rfl
 refine hK.out _ _ ⟨((cell_far (p := ⟨gb407, _, none⟩) NB421_407.out _).trans (((cell_far (p := ⟨gb407, _, none⟩) NB421_407.out _).trans (hHeld.1)))), ((cell_far (p := ⟨gb407, _, none⟩) NB422_407.out _).trans (((cell_far (p := ⟨gb407, _, none⟩) NB422_407.out _).trans (hHeld.2.1)))), ((cell_far (p := ⟨gb407, _, none⟩) NB422_407.out _).trans (((cell_far (p := ⟨gb407, _, none⟩) NB422_407.out _).trans (hHeld.2.2))))⟩ (fun hHeld => ?_)
 clear hK K
 refine pure_ (i := 7) (N := some 4) (v := ?_) (a' := ?_) #[true, true, true, true, true, true, true, true, false] rfl rfl (any_of HT_.out (by kernel_rfl)) (fun _ _ _ h => h) (Or.inl ⟨by rfl, ?_⟩) ?_ ?_
 rotate_left
 ·intro w'
  go_simp
  with_reducible rfl
 rotate_left
 ·simp only [Act.put, List.setIfInBounds_toArray, List.set_cons_zero, List.set_cons_succ, i64_w, i32_w]
  rfl
 refine pure_ (i := 8) (N := some 5) (v := ?_) (a' := ?_) #[true, true, true, true, true, true, true, true, true] rfl rfl (any_of HT_.out (by kernel_rfl)) (fun _ _ _ h => h) (Or.inl ⟨by rfl, ?_⟩) ?_ ?_
 rotate_left
 ·intro w'
  go_simp
  with_reducible rfl
 rotate_left
 ·simp only [Act.put, List.setIfInBounds_toArray, List.set_cons_zero, List.set_cons_succ, i64_w, i32_w]
  rfl
 refine done_ (done_of HT_.out (by kernel_rfl)) ?_
 try go_wp2
 refine bodyPost_ret (results_list (rs := [.cell 2 29, .cell 3 32, .tmp 4, .tmp 5]) rfl (by simp) (.cell gb406 29 #[.slice Ao12 t412.length co12] (0, 0) _ rfl (by (with_reducible repeat (first | refine blk_drewN ?_ _ | refine blk_drew ?_ | refine blk_alloc ?_ _)); refine blk_far ?_ NB406_407.out _; (with_reducible repeat (first | refine blk_drewN ?_ _ | refine blk_drew ?_ | refine blk_alloc ?_ _)); refine blk_far ?_ NB406_407.out _; (with_reducible repeat (first | refine blk_drewN ?_ _ | refine blk_drew ?_ | refine blk_alloc ?_ _)); refine blk_put (cs := #[.slice none 0 0]) ?_ 0 _ rfl; (with_reducible repeat (first | refine blk_drewN ?_ _ | refine blk_drew ?_ | refine blk_alloc ?_ _)); exact BK406.out) Try.underlying29 rfl (by kernel_rfl) (.cell gb407 32 #[.slice Ao18 t415.length co18, .int .i64 t418] (0, 0) _ rfl (by (with_reducible repeat (first | refine blk_drewN ?_ _ | refine blk_drew ?_ | refine blk_alloc ?_ _)); refine blk_put (cs := #[.slice Ao18 t415.length co18, .int .i64 0]) ?_ 1 _ rfl; (with_reducible repeat (first | refine blk_drewN ?_ _ | refine blk_drew ?_ | refine blk_alloc ?_ _)); refine blk_put (cs := #[.slice none 0 0, .int .i64 0]) ?_ 0 _ rfl; (with_reducible repeat (first | refine blk_drewN ?_ _ | refine blk_drew ?_ | refine blk_alloc ?_ _)); refine blk_far ?_ NB407_406.out _; (with_reducible repeat (first | refine blk_drewN ?_ _ | refine blk_drew ?_ | refine blk_alloc ?_ _)); exact BK407.out) Try.underlying32 rfl (by kernel_rfl) (.tmp (.tmp .nil))))) rfl ?_
 exact ⟨_, _, rt, ks (Kd.S_mono (Kd.S_far (p := ⟨gb407, 1, none⟩) (Kd.S_far (p := ⟨gb407, 0, none⟩) (Kd.S_far (p := ⟨gb406, 0, none⟩) (Kd.S_types (Kd.S_types HO414.out BK406.out (by decide)) BK407.out (by decide)) (fun _ hk => hk.1.2) (.slice Ao12 t412.length co12)) (fun _ hk => hk.2) (.slice Ao18 t415.length co18)) (fun _ hk => hk.2) (.int .i64 t418)) (fun _ hk => hk.1.1)), kq (Kd.Q_mono (Kd.Q_far (p := ⟨gb407, 1, none⟩) (Kd.Q_far (p := ⟨gb407, 0, none⟩) (Kd.Q_far (p := ⟨gb406, 0, none⟩) (Kd.Q_types (Kd.Q_types HO417.out BK406.out (by decide)) BK407.out (by decide)) (fun _ hk => hk.1.2) (.slice Ao12 t412.length co12)) (fun _ hk => hk.2) (.slice Ao18 t415.length co18)) (fun _ hk => hk.2) (.int .i64 t418)) (fun _ hk => trivial)), bi HB.out⟩

/-! ### impl_copyMem: function 76 -/
def impl_copyMem.f (l0_0 : List Int) (a0_1 : Int) : Option (List Int × Int) := (impl_copyInts.f l0_0).bind fun t431 => (some (t431, a0_1))
set_option maxHeartbeats 8000000 in
set_option maxRecDepth 100000 in
theorem impl_copyMem.calls (A0_0 : Option Addr) (c0_0 : Nat) (l0_0 : List Int) (a0_1 : Int) (r1 : List Int) (r2 : Int) (w : World) (hr0_0 : Kd.C (Kd.int .i64) w A0_0 l0_0.length l0_0) (hc0_0 : l0_0.length ≤ c0_0) (h : impl_copyMem.f l0_0 a0_1 = some (r1, r2)) :
  Calls Try.prog 76 #[.agg #[.slice A0_0 l0_0.length c0_0, .int .i64 a0_1]] w fun e w' => ∃ v0_ : Value, e = .returned (.agg #[v0_, .int .i64 r2]) ∧ Kd.R (Kd.int .i64) 3 w' w.heap.size (fun _ => True) v0_ r1 ∧ Below w.heap.size w w' := by
 have hu32 := Try.underlying32
 have HR0_0 := Aside0.mk hr0_0
 have HC0_0 := Aside0.mk hc0_0
 clear hr0_0 hc0_0
 have HB := Aside0.mk (Below.refl w.heap.size w)
 have H : ((impl_copyInts.f l0_0).bind fun t431 => (some (t431, a0_1))) = some (r1, r2) := h
 clear h
 replace H := Option.bind_eq_some_iff.mp H
 obtain ⟨t431, A20, H⟩ := H
 replace H : (some (t431, a0_1)) = some (r1, r2) := H
 have A2 := Aside0.mk A20
 clear A20
 simp only [Option.some.injEq, Prod.mk.injEq] at H
 obtain ⟨rfl, rfl⟩ := H
 go_enter Try.func76, Try.ntmps76
 try go_wp2_with (first | ((with_reducible refine gate_dst (N := 1) rfl ?_); refine bx (N := 1) (cs := #[.slice A0_0 l0_0.length c0_0, .int .i64 a0_1]) (t := 32) ?_; intro gb429 hg w3 hbox hb; have n0_ := Aside0.mk (below_step (bw HB.out) hb); have n1_ := Aside0.mk (hbox); have n2_ := Aside0.mk ((gs hg (bw HB.out))); have n3_ := Aside0.mk ((gs hg (bw HB.out))); clear HB; have HB := n0_; have BK429 := n1_; have GW429 := n2_; have GE429 := n3_; clear n0_ n1_ n2_ n3_; clear hb hbox hg) | ((with_reducible refine gate_dst (N := 2) rfl ?_); refine bx (N := 2) (cs := #[.slice none 0 0, .int .i64 0]) (t := 32) ?_; intro gb430 hg w4 hbox hb; have n0_ := Aside0.mk (blk_below (g := gb429) (o := .cells #[.slice A0_0 l0_0.length c0_0, .int .i64 a0_1] 32 (0, 0)) (kb BK429.out) hb); have n1_ := Aside0.mk (below_step (bw HB.out) hb); have n2_ := Aside0.mk (hbox); have n3_ := Aside0.mk ((gs hg (bw HB.out))); have n4_ := Aside0.mk ((gs hg (bw HB.out))); have n5_ := Aside0.mk ((ga hg BK429.out)); have n6_ := Aside0.mk ((gc hg BK429.out)); clear BK429; clear HB; have BK429 := n0_; have HB := n1_; have BK430 := n2_; have GW430 := n3_; have GE430 := n4_; have NB429_430 := n5_; have NB430_429 := n6_; clear n0_ n1_ n2_ n3_ n4_ n5_ n6_; clear hb hbox hg))
 have n0_ := Aside0.mk (blk_drew BK429.out)
 have n1_ := Aside0.mk (blk_drew BK430.out)
 have n2_ := Aside0.mk (below_drew1 HB.out)
 clear BK429; clear BK430; clear HB; have BK429 := n0_; have BK430 := n1_; have HB := n2_; clear n0_ n1_ n2_
 refine start_ (n := 7) (S := fun w' => w'.cell? ⟨gb429, 0, none⟩ = some (.slice A0_0 l0_0.length c0_0) ∧ w'.cell? ⟨gb429, 1, none⟩ = some (.int .i64 a0_1)) (ds := []) #[false, false, false, false, false, false, false] (by kernel_rfl) rfl rfl ⟨(blk_cell BK429.out 0).trans rfl, (blk_cell BK429.out 1).trans rfl⟩ (fun hHeld => ?_)
 generalize w4.drew = w5 at BK429 BK430 HB hHeld ⊢
 refine pure_ (i := 0) (N := some 3) (v := ?_) (a' := ?_) #[true, false, false, false, false, false, false] rfl rfl (by kernel_rfl) (fun _ _ _ h => h) (Or.inl ⟨by rfl, ?_⟩) ?_ ?_
 rotate_left
 ·intro w'
  go_simp
  with_reducible rfl
 rotate_left
 ·simp only [Act.put, List.setIfInBounds_toArray, List.set_cons_zero, List.set_cons_succ, i64_w, i32_w]
  rfl
 refine pure_ (i := 3) (N := some 6) (v := ?_) (a' := ?_) #[true, false, false, true, false, false, false] rfl rfl (by kernel_rfl) (fun _ _ _ h => h) (Or.inl ⟨by rfl, ?_⟩) ?_ ?_
 rotate_left
 ·intro w'
  go_simp
  with_reducible rfl
 rotate_left
 ·simp only [Act.put, List.setIfInBounds_toArray, List.set_cons_zero, List.set_cons_succ, i64_w, i32_w]
  rfl
 refine take_ (i := 1) (N := some 4) (v := ?_) (a' := ?_) #[true, true, false, true, false, false, false] rfl rfl (by kernel_rfl) (fun _ _ _ h => h) (Or.inl ⟨by rfl, ?_⟩) hHeld ?_ ?_
 rotate_left
 ·rintro w' ⟨s0, s1⟩
  go_simp
  with_reducible rfl
 rotate_left
 ·simp only [Act.put, List.setIfInBounds_toArray, List.set_cons_zero, List.set_cons_succ, i64_w, i32_w]
  rfl
 refine take_ (i := 4) (N := some 7) (v := ?_) (a' := ?_) #[true, true, false, true, true, false, false] rfl rfl (by kernel_rfl) (fun _ _ _ h => h) (Or.inl ⟨by rfl, ?_⟩) hHeld ?_ ?_
 rotate_left
 ·rintro w' ⟨s0, s1⟩
  go_simp
  with_reducible rfl
 rotate_left
 ·simp only [Act.put, List.setIfInBounds_toArray, List.set_cons_zero, List.set_cons_succ, i64_w, i32_w]
  rfl
 refine one_ (i := 2) (N := some 5) #[true, true, true, true, true, false, false] rfl rfl (by kernel_rfl) (by decide) (fun K hK => ?_)
 refine goes_ Try.func72 (by kernel_rfl) rfl #[.slice A0_0 l0_0.length c0_0] (by rfl) rfl rfl (by (try simp only [List.map_toArray, List.map_cons, List.map_nil]); first | done | rfl | (simp only [List.length_drop, List.length_take]; rfl)) ?_
 with_reducible refine (impl_copyInts.calls _ _ l0_0 t431 _ ?side1 ?side2 A2.out).mono ?_
 (case side1 => exact kc (Kd.C_below HR0_0.out HB.out))
 (case side2 => exact HC0_0.out)
 rintro e w6 ⟨v432, rfl, ho0, hb⟩
 refine ⟨_, rfl, ?_⟩
 have n0_ := Aside0.mk (Kd.R_lower ho0 (below_size (bw HB.out)))
 have n1_ := Aside0.mk (blk_below (g := gb429) (o := .cells #[.slice A0_0 l0_0.length c0_0, .int .i64 a0_1] 32 (0, 0)) (kb BK429.out) hb)
 have n2_ := Aside0.mk (blk_below (g := gb430) (o := .cells #[.slice none 0 0, .int .i64 0] 32 (0, 0)) (kb BK430.out) hb)
 have n3_ := Aside0.mk (below_step (bw HB.out) hb)
 clear BK429; clear BK430; clear HB; have HO433 := n0_; have BK429 := n1_; have BK430 := n2_; have HB := n3_; clear n0_ n1_ n2_ n3_; (try clear hb); (try clear hb2); (try clear hk); (try clear hi); (try clear ho0)
 obtain ⟨Ao7, co7, eo7⟩ := Kd.R_slice HO433.out
 (first | subst eo7 | (injection eo7 with f1_ f2_ f3_; have f4_ := f1_.symm; have f5_ := f3_.symm; clear f1_ f2_ f3_; subst f4_; subst f5_))
 refine hK.out _ _ ⟨(blk_cell BK429.out 0).trans rfl, (blk_cell BK429.out 1).trans rfl⟩ (fun hHeld => ?_)
 clear hK K
 refine norm_ (a' := ?_) ?_ ?_
 rotate_left
 ·show Act.put _ (some 5) _ = _
  simp only [Act.put, List.setIfInBounds_toArray, List.set_cons_zero, List.set_cons_succ, i64_w, i32_w]
  rfl
 refine pure_ (i := 5) (N := some 8) (v := ?_) (a' := ?_) #[true, true, true, true, true, true, false] rfl rfl (by kernel_rfl) (fun _ _ _ h => h) (Or.inl ⟨by rfl, ?_⟩) ?_ ?_
 rotate_left
 ·intro w'
  go_simp
  with_reducible rfl
 rotate_left
 ·simp only [Act.put, List.setIfInBounds_toArray, List.set_cons_zero, List.set_cons_succ, i64_w, i32_w]
  rfl
 refine one_ (i := 6) (N := none) #[true, true, true, true, true, true, true] rfl rfl (by kernel_rfl) (by decide) (fun K hK => ?_)
 have hs8 : w6.cell? ⟨gb430, 0, none⟩ = some (.slice none 0 0) := (blk_cell BK430.out 0).trans rfl
 have hfs8 := blk_frozen BK430.out 0
 have hns8_0 := NB429_430.out
 have hms8_0 := NB430_429.out
 have hs9 : w6.cell? ⟨gb430, 1, none⟩ = some (.int .i64 0) := (blk_cell BK430.out 1).trans rfl
 have hfs9 := blk_frozen BK430.out 1
 have hns9_0 := NB429_430.out
 have hms9_0 := NB430_429.out
 refine skip_ (w1 := ?_) (by rfl) rfl ?_ ?_
 rotate_left
 ·go_simp
  rfl
 refine hK.out _ _ ⟨((cell_far (p := ⟨gb430, _, none⟩) NB429_430.out _).trans (((cell_far (p := ⟨gb430, _, none⟩) NB429_430.out _).trans (hHeld.1)))), ((cell_far (p := ⟨gb430, _, none⟩) NB429_430.out _).trans (((cell_far (p := ⟨gb430, _, none⟩) NB429_430.out _).trans (hHeld.2))))⟩ (fun hHeld => ?_)
 clear hK K
 refine done_ (by kernel_rfl) ?_
 try go_wp2
 refine bodyPost_ret (results_cell_row rfl _ _ gb430 32 #[.slice Ao7 t431.length co7, .int .i64 a0_1] (0, 0) _ rfl (by (with_reducible repeat (first | refine blk_drewN ?_ _ | refine blk_drew ?_ | refine blk_alloc ?_ _)); refine blk_put (cs := #[.slice Ao7 t431.length co7, .int .i64 0]) ?_ 1 _ rfl; (with_reducible repeat (first | refine blk_drewN ?_ _ | refine blk_drew ?_ | refine blk_alloc ?_ _)); refine blk_put (cs := #[.slice none 0 0, .int .i64 0]) ?_ 0 _ rfl; (with_reducible repeat (first | refine blk_drewN ?_ _ | refine blk_drew ?_ | refine blk_alloc ?_ _)); exact BK430.out) Try.underlying32 rfl (by kernel_rfl)) rfl ?_
 exact ⟨_, rt, kr (Kd.R_mono (Kd.R_far (p := ⟨gb430, 1, none⟩) (Kd.R_far (p := ⟨gb430, 0, none⟩) (Kd.R_types HO433.out BK430.out (by decide)) (fun _ hk => hk.2) (.slice Ao7 t431.length co7)) (fun _ hk => hk.2) (.int .i64 a0_1)) (fun _ hk => trivial)), bw HB.out⟩

/-! ### impl_Byte: function 34 -/
def impl_Byte.f (a0 : Int) : Option (Int) := some (Go.bits .and .i64 a0 255)
set_option maxHeartbeats 8000000 in
set_option maxRecDepth 100000 in
theorem impl_Byte.calls (a0 : Int) (r : Int) (w : World) (h : impl_Byte.f a0 = some r) :
  Calls Try.prog 34 #[.int .i64 a0] w fun e w' => e = .returned (.int .i64 r) ∧ Drawn0 w w' := by
 have H : (some (Go.bits .and .i64 a0 255)) = some r := h
 clear h
 obtain rfl := Option.some.inj H
 go_enter Try.func34, Try.ntmps34
 go_wp2
 go_ret
 exact ⟨by first | rfl | (simp; done) | (simp [*]; done), by repeat (first | exact Drawn0.refl _ | apply Drawn0.step)⟩

-- NOT PRINTED: function 77 (impl_Mem_poke)

/-! ### mine_words (mine) -/
theorem and_low (n : Int) (j : Nat) (m : Int) (hj : j < 64) (hm : (BitVec.ofInt 64 m).toNat = 2 ^ j - 1) : Go.bits .and .i64 n m = n % (2 ^ j : Nat) := by
 have key : (BitVec.ofInt 64 n &&& BitVec.ofInt 64 m).toNat = (n % ((2 ^ 64 : Nat) : Int)).toNat % 2 ^ j := by
  rw [BitVec.toNat_and, BitVec.toNat_ofInt, hm, Nat.and_two_pow_sub_one_eq_mod]
 show IntKind.i64.wrap ((BitVec.ofInt 64 n &&& BitVec.ofInt 64 m).toNat : Nat) = n % (2 ^ j : Nat)
 have hd : ((2 ^ j : Nat) : Int) ∣ ((2 ^ 64 : Nat) : Int) := by
  exact_mod_cast Nat.pow_dvd_pow 2 (Nat.le_of_lt hj)
 have hp : (0 : Int) < ((2 ^ j : Nat) : Int) := by exact_mod_cast Nat.two_pow_pos j
 have hle : ((2 ^ j : Nat) : Int) ≤ ((2 ^ 63 : Nat) : Int) := by
  exact_mod_cast Nat.pow_le_pow_right (by decide) (by omega)
 have e : (((n % ((2 ^ 64 : Nat) : Int)).toNat % 2 ^ j : Nat) : Int) = n % ((2 ^ j : Nat) : Int) := by
  rw [Int.natCast_emod, Int.toNat_of_nonneg (Int.emod_nonneg _ (by decide)), Int.emod_emod_of_dvd _ hd]
 rw [key, e, IntKind.wrap_i64]
 have h0 := Int.emod_nonneg n (Int.ne_of_gt hp)
 have h1 := Int.emod_lt_of_pos n hp
 generalize n % ((2 ^ j : Nat) : Int) = x at *
 generalize ((2 ^ j : Nat) : Int) = y at *
 have : ((2 ^ 63 : Nat) : Int) = 9223372036854775808 := by decide
 omega
theorem and255 (n : Int) : Go.bits .and .i64 n 255 = n % 256 := and_low n 8 255 (by decide) (by decide)
theorem and65535 (n : Int) : Go.bits .and .i64 n 65535 = n % 65536 := and_low n 16 65535 (by decide) (by decide)
/-- A processor's registers and flags. -/
structure Cp where
 A : Int
 X : Int
 S : Int
 P : Int
 Z : Bool
 N : Bool
 C : Bool
 I : Bool
def Cp.cells (k : Cp) : Array Value := #[.int .i64 k.A, .int .i64 k.X, .int .i64 k.S, .int .i64 k.P, .bool k.Z, .bool k.N, .bool k.C, .bool k.I]
/-- A memory at x and a processor at c, both of the call's own; rv is the memory's row. -/
structure MC (w0 w : World) (x c : Nat) (rv : Value) (b : Int) (k : Cp) (ram : List Int) : Prop where
 mem : w.heap[x]? = some (.cells #[rv, .int .i64 b] 32 (0, 0))
 cpu : w.heap[c]? = some (.cells k.cells 55 (0, 0))
 row : Kd.R (Kd.int .i64) 3 w w0.heap.size (fun _ => True) rv ram
 hx : w0.heap.size ≤ x
 hc : w0.heap.size ≤ c
 below : Below w0.heap.size w0 w
theorem MC.ne {w0 w : World} {x c : Nat} {rv : Value} {b : Int} {k : Cp} {ram : List Int} (h : MC w0 w x c rv b k ram) : x ≠ c := blk_ne h.mem h.cpu (by decide)
theorem MC.far {w0 w : World} {x c : Nat} {rv : Value} {b : Int} {k : Cp} {ram : List Int} (h : MC w0 w x c rv b k ram) : some x ≠ rv.ownBlock ∧ some c ≠ rv.ownBlock := ⟨Kd.R_ne h.row h.mem (by decide), Kd.R_ne h.row h.cpu (by decide)⟩
/-- A world that differs only above. -/
theorem MC.later {w0 w w1 : World} {x c : Nat} {rv : Value} {b : Int} {k : Cp} {ram : List Int} (h : MC w0 w x c rv b k ram) (hb : Below w.heap.size w w1) : MC w0 w1 x c rv b k ram :=
 ⟨blk_below h.mem hb, blk_below h.cpu hb, Kd.R_below h.row hb, h.hx, h.hc, below_then h.below h.below.size hb⟩
theorem MC.drewN {w0 w : World} {x c : Nat} {rv : Value} {b : Int} {k : Cp} {ram : List Int} (h : MC w0 w x c rv b k ram) (n : Nat) : MC w0 (w.drewN n) x c rv b k ram := h.later (pw_below_drewN (Below.refl _ _) n)
theorem MC.drew {w0 w : World} {x c : Nat} {rv : Value} {b : Int} {k : Cp} {ram : List Int} (h : MC w0 w x c rv b k ram) : MC w0 w.drew x c rv b k ram := h.later (below_drew1 (Below.refl _ _))
/-- A store into the processor. -/
theorem MC.setC {w0 w : World} {x c : Nat} {rv : Value} {b : Int} {k k' : Cp} {ram : List Int} (h : MC w0 w x c rv b k ram) (i : Nat) (u : Value) (e : k.cells.setIfInBounds i u = k'.cells) : MC w0 (w.setCell ⟨c, i, none⟩ u) x c rv b k' ram :=
 ⟨blk_far h.mem h.ne u, blk_put h.cpu i u e, Kd.R_mono (Kd.R_far (p := ⟨c, i, none⟩) (Kd.R_types h.row h.cpu (by decide)) (fun _ hk => hk.2) u) (fun _ hk => hk.1), h.hx, h.hc, below_set h.below h.hc⟩
/-- A store into the memory's row. -/
theorem MC.setR {w0 w : World} {x c g cap : Nat} {b : Int} {k : Cp} {ram : List Int} (h : MC w0 w x c (.slice (some ⟨g, 0, none⟩) ram.length cap) b k ram) (hg : w0.heap.size ≤ g) (i v : Int) :
  MC w0 (w.setCell ⟨g, i.toNat, none⟩ (.int .i64 v)) x c (.slice (some ⟨g, 0, none⟩) ram.length cap) b k (ram.set i.toNat v) :=
 ⟨blk_far h.mem (fun e => h.far.1 (by rw [e]; rfl)) _, blk_far h.cpu (fun e => h.far.2 (by rw [e]; rfl)) _, Kd.R_putn h.row i v, h.hx, h.hc, below_set h.below hg⟩
theorem kept_set {w W : World} {S : Nat → Prop} (h : Kept w W S) {g i : Nat} (hg : S g) (u : Value) : Kept w (W.setCell ⟨g, i, none⟩ u) S := h.setCell (.inl hg) u
theorem byte_same (a : Int) (w : World) : Calls Try.prog 34 #[.int .i64 a] w fun e w' => e = .returned (.int .i64 (a % 256)) ∧ w' = w := by
 rw [← and255]
 go_enter Try.func34, Try.ntmps34
 go_wp2
 go_ret
 exact ⟨rfl, rfl⟩

/-! ### mine_rows (mine) -/
section
variable {w : World} {r : Nat} {t : TypeId}
theorem heap2 (w : World) (r k : Nat) (u0 u1 : Value) (h : k ≠ r) : ((w.setCell ⟨r, 0, none⟩ u0).setCell ⟨r, 1, none⟩ u1).heap[k]? = w.heap[k]? := by
 refine (Below.heap_setCell _ _ _ k h).trans ?_
 exact Below.heap_setCell _ _ _ k h
theorem put2 {o0 o1 : Value} (h : w.heap[r]? = some (.cells #[o0, o1] t (0, 0))) (u0 u1 : Value) : ((w.setCell ⟨r, 0, none⟩ u0).setCell ⟨r, 1, none⟩ u1).heap[r]? = some (.cells #[u0, u1] t (0, 0)) := by
 refine blk_put (cs := #[u0, o1]) ?_ 1 _ rfl
 exact blk_put h 0 _ rfl
theorem heap8 (w : World) (r k : Nat) (u0 u1 u2 u3 u4 u5 u6 u7 : Value) (h : k ≠ r) : ((((((((w.setCell ⟨r, 0, none⟩ u0).setCell ⟨r, 1, none⟩ u1).setCell ⟨r, 2, none⟩ u2).setCell ⟨r, 3, none⟩ u3).setCell ⟨r, 4, none⟩ u4).setCell ⟨r, 5, none⟩ u5).setCell ⟨r, 6, none⟩ u6).setCell ⟨r, 7, none⟩ u7).heap[k]? = w.heap[k]? := by
 refine (Below.heap_setCell _ _ _ k h).trans ?_
 refine (Below.heap_setCell _ _ _ k h).trans ?_
 refine (Below.heap_setCell _ _ _ k h).trans ?_
 refine (Below.heap_setCell _ _ _ k h).trans ?_
 refine (Below.heap_setCell _ _ _ k h).trans ?_
 refine (Below.heap_setCell _ _ _ k h).trans ?_
 refine (Below.heap_setCell _ _ _ k h).trans ?_
 exact Below.heap_setCell _ _ _ k h
theorem put8 {o0 o1 o2 o3 o4 o5 o6 o7 : Value} (h : w.heap[r]? = some (.cells #[o0, o1, o2, o3, o4, o5, o6, o7] t (0, 0))) (u0 u1 u2 u3 u4 u5 u6 u7 : Value) :
  ((((((((w.setCell ⟨r, 0, none⟩ u0).setCell ⟨r, 1, none⟩ u1).setCell ⟨r, 2, none⟩ u2).setCell ⟨r, 3, none⟩ u3).setCell ⟨r, 4, none⟩ u4).setCell ⟨r, 5, none⟩ u5).setCell ⟨r, 6, none⟩ u6).setCell ⟨r, 7, none⟩ u7).heap[r]? = some (.cells #[u0, u1, u2, u3, u4, u5, u6, u7] t (0, 0)) := by
 refine blk_put (cs := #[u0, u1, u2, u3, u4, u5, u6, o7]) ?_ 7 _ rfl
 refine blk_put (cs := #[u0, u1, u2, u3, u4, u5, o6, o7]) ?_ 6 _ rfl
 refine blk_put (cs := #[u0, u1, u2, u3, u4, o5, o6, o7]) ?_ 5 _ rfl
 refine blk_put (cs := #[u0, u1, u2, u3, o4, o5, o6, o7]) ?_ 4 _ rfl
 refine blk_put (cs := #[u0, u1, u2, o3, o4, o5, o6, o7]) ?_ 3 _ rfl
 refine blk_put (cs := #[u0, u1, o2, o3, o4, o5, o6, o7]) ?_ 2 _ rfl
 refine blk_put (cs := #[u0, o1, o2, o3, o4, o5, o6, o7]) ?_ 1 _ rfl
 exact blk_put h 0 _ rfl
end
theorem row8 {w : World} {r m : Nat} {rv : Value} {ram : List Int} {o0 o1 o2 o3 o4 o5 o6 o7 : Value} (h : Kd.R (Kd.int .i64) 3 w m (fun _ => True) rv ram) (hb : w.heap[r]? = some (.cells #[o0, o1, o2, o3, o4, o5, o6, o7] 55 (0, 0))) (u0 u1 u2 u3 u4 u5 u6 u7 : Value) :
  Kd.R (Kd.int .i64) 3 ((((((((w.setCell ⟨r, 0, none⟩ u0).setCell ⟨r, 1, none⟩ u1).setCell ⟨r, 2, none⟩ u2).setCell ⟨r, 3, none⟩ u3).setCell ⟨r, 4, none⟩ u4).setCell ⟨r, 5, none⟩ u5).setCell ⟨r, 6, none⟩ u6).setCell ⟨r, 7, none⟩ u7) m (fun _ => True) rv ram :=
 Kd.R_mono (Kd.R_far (p := ⟨r, 7, none⟩) (Kd.R_far (p := ⟨r, 6, none⟩) (Kd.R_far (p := ⟨r, 5, none⟩) (Kd.R_far (p := ⟨r, 4, none⟩) (Kd.R_far (p := ⟨r, 3, none⟩) (Kd.R_far (p := ⟨r, 2, none⟩) (Kd.R_far (p := ⟨r, 1, none⟩) (Kd.R_far (p := ⟨r, 0, none⟩) (Kd.R_types h hb (by decide)) (fun _ hk => hk.2) u0) (fun _ hk => hk.2) u1) (fun _ hk => hk.2) u2) (fun _ hk => hk.2) u3) (fun _ hk => hk.2) u4) (fun _ hk => hk.2) u5) (fun _ hk => hk.2) u6) (fun _ hk => hk.2) u7) (fun _ _ => trivial)
theorem below8 {w W : World} {r : Nat} (h : Below w.heap.size w W) (hr : w.heap.size ≤ r) (u0 u1 u2 u3 u4 u5 u6 u7 : Value) : Below w.heap.size w ((((((((W.setCell ⟨r, 0, none⟩ u0).setCell ⟨r, 1, none⟩ u1).setCell ⟨r, 2, none⟩ u2).setCell ⟨r, 3, none⟩ u3).setCell ⟨r, 4, none⟩ u4).setCell ⟨r, 5, none⟩ u5).setCell ⟨r, 6, none⟩ u6).setCell ⟨r, 7, none⟩ u7) :=
 (below_set (below_set (below_set (below_set (below_set (below_set (below_set (below_set h hr) hr) hr) hr) hr) hr) hr) hr)

/-! ### mem_poke (mine) -/
/-- A memory at x of the call's own; rv is its row. -/
structure MO (w0 w : World) (x : Nat) (rv : Value) (b : Int) (ram : List Int) : Prop where
 mem : w.heap[x]? = some (.cells #[rv, .int .i64 b] 32 (0, 0))
 row : Kd.R (Kd.int .i64) 3 w w0.heap.size (fun _ => True) rv ram
 hx : w0.heap.size ≤ x
 below : Below w0.heap.size w0 w
theorem MO.far {w0 w : World} {x : Nat} {rv : Value} {b : Int} {ram : List Int} (h : MO w0 w x rv b ram) : some x ≠ rv.ownBlock := Kd.R_ne h.row h.mem (by decide)
theorem MO.later {w0 w w1 : World} {x : Nat} {rv : Value} {b : Int} {ram : List Int} (h : MO w0 w x rv b ram) (hb : Below w.heap.size w w1) : MO w0 w1 x rv b ram :=
 ⟨blk_below h.mem hb, Kd.R_below h.row hb, h.hx, below_then h.below h.below.size hb⟩
theorem MO.drewN {w0 w : World} {x : Nat} {rv : Value} {b : Int} {ram : List Int} (h : MO w0 w x rv b ram) (n : Nat) : MO w0 (w.drewN n) x rv b ram := h.later (pw_below_drewN (Below.refl _ _) n)
theorem MO.drew {w0 w : World} {x : Nat} {rv : Value} {b : Int} {ram : List Int} (h : MO w0 w x rv b ram) : MO w0 w.drew x rv b ram := h.later (below_drew1 (Below.refl _ _))
theorem MO.setB {w0 w : World} {x : Nat} {rv : Value} {b : Int} {ram : List Int} (h : MO w0 w x rv b ram) (b' : Int) : MO w0 (w.setCell ⟨x, 1, none⟩ (.int .i64 b')) x rv b' ram :=
 ⟨blk_put h.mem 1 _ rfl, Kd.R_mono (Kd.R_far (p := ⟨x, 1, none⟩) (Kd.R_types h.row h.mem (by decide)) (fun _ hk => hk.2) _) (fun _ hk => hk.1), h.hx, below_set h.below h.hx⟩
theorem MO.setR {w0 w : World} {x g cap : Nat} {b : Int} {ram : List Int} (h : MO w0 w x (.slice (some ⟨g, 0, none⟩) ram.length cap) b ram) (hg : w0.heap.size ≤ g) (i v : Int) :
  MO w0 (w.setCell ⟨g, i.toNat, none⟩ (.int .i64 v)) x (.slice (some ⟨g, 0, none⟩) ram.length cap) b (ram.set i.toNat v) :=
 ⟨blk_far h.mem (fun e => h.far (by rw [e]; rfl)) _, Kd.R_putn h.row i v, h.hx, below_set h.below hg⟩
def pokeF (n : Int) (ram : List Int) (b rg a v : Int) : List Int × Int := if rg = 1 then (ram.set a.toNat (v % 256), b) else if rg = 5 ∨ rg = 6 then (ram, Int.tmod (v % 256) n) else (ram, b)
theorem frozen_below {w w1 : World} (h : Below w.heap.size w w1) {a : Addr} (ha : a.block < w.heap.size) (hc : w.frozen? a = false) : w1.frozen? a = false := (h.frozen ha).trans hc
set_option maxRecDepth 100000 in
set_option maxHeartbeats 1000000 in
theorem poke_ram (x g cap : Nat) (ram : List Int) (img : Array Value) (addr a v old : Int) (w : World) (hi : impl_Region.f addr = some (1, a))
  (hx0 : w.cell? ⟨x, 0, none⟩ = some (.slice (some ⟨g, 0, none⟩) ram.length cap)) (hgl : g < w.heap.size)
  (ha0 : 0 ≤ a) (ha1 : a < (ram.length : Int)) (hcg : w.cell? ⟨g, a.toNat, none⟩ = some (.int .i64 old)) (hfg : w.frozen? ⟨g, a.toNat, none⟩ = false) :
  Calls Try.prog 77 #[.pointer (some ⟨x, 0, none⟩), .agg img, .int .i64 addr, .int .i64 v] w fun e w' => e = .returned (.tuple #[]) ∧
   ∃ W m, Below w.heap.size w W ∧ w' = (W.setCell ⟨g, a.toNat, none⟩ (.int .i64 (v % 256))).drewN m := by
 have hu37 := Try.underlying32
 have A2 : Aside0 (∀ w, Calls Try.prog 34 #[.int .i64 v] w fun e w' => e = .returned (.int .i64 (v % 256)) ∧ w' = w) := ⟨byte_same v⟩
 have HI := Aside0.mk hi
 generalize v % 256 = vb at *
 have hb1 : (a < (ram.length : Int)) = True := eq_true ha1
 have hb0 : (0 ≤ a) = True := eq_true ha0
 clear hi ha0 ha1
 go_enter Try.func77, Try.ntmps77
 go_wp2_with fail
 refine (impl_Region.calls addr 1 a _ HI.out).mono ?_
 rintro e W ⟨rfl, hd⟩
 have hbW : Below w.heap.size w W := below_step (below_alloc (Below.refl _ _) _) hd.below
 have hx := pw_cell_below hbW hx0
 have hc := pw_cell_below hbW hcg
 have hf := frozen_below hbW hgl hfg
 have HB := Aside0.mk hbW
 clear hd hbW hx0 hcg hfg
 go_wp2
 go_still_tail 8, (by kernel_rfl)
 still_call (A2.out _)
 repeat still_step
 try refine wpStill_nil ?_
 go_wp2
 go_end0
 exact ⟨rfl, W, 1, HB.out, rfl⟩
set_option maxRecDepth 100000 in
set_option maxHeartbeats 1000000 in
theorem poke_bank (x b : Nat) (A0 : Option Addr) (c0 n : Nat) (ob : Int) (rg addr a v : Int) (w : World) (hi : impl_Region.f addr = some (rg, a)) (hrg : rg = 5 ∨ rg = 6)
  (hx1 : w.cell? ⟨x, 1, none⟩ = some (.int .i64 ob)) (hfx : w.frozen? ⟨x, 1, none⟩ = false) (hxl : x < w.heap.size) (hn0 : 0 < n) (hn1 : n ≤ 8) :
  Calls Try.prog 77 #[.pointer (some ⟨x, 0, none⟩), .agg #[.slice A0 n c0], .int .i64 addr, .int .i64 v] w fun e w' => e = .returned (.tuple #[]) ∧
   ∃ W m, Below w.heap.size w W ∧ w' = (W.setCell ⟨x, 1, none⟩ (.int .i64 (Int.tmod (v % 256) n))).drewN m := by
 have hu37 := Try.underlying32
 have hu27 := Try.underlying29
 have A2 : Aside0 (∀ w, Calls Try.prog 34 #[.int .i64 v] w fun e w' => e = .returned (.int .i64 (v % 256)) ∧ w' = w) := ⟨byte_same v⟩
 have HI := Aside0.mk hi
 generalize v % 256 = vb at *
 have hn2 : n ≠ 0 := by omega
 have hn3 : (((n : Nat) : Int) = 0) = False := eq_false (by omega)
 have hn4 : (((n : Nat) : Int) == 0) = false := by simpa using hn2
 have HN := Aside0.mk hn1
 clear hi hn0 hn1
 rcases hrg with rfl | rfl
 all_goals
  go_enter Try.func77, Try.ntmps77
  go_wp2_with fail
  refine (impl_Region.calls addr _ a _ HI.out).mono ?_
  rintro e W ⟨rfl, hd⟩
  have hbW : Below w.heap.size w W := below_step (below_alloc (Below.refl _ _) _) hd.below
  have hbx : W.heap[w.heap.size]? = some (.cells #[.slice A0 n c0] 29 (0, 0)) := blk_below (alloc_at _ _ _ rfl) hd.below
  have hi0 : W.cell? ⟨w.heap.size, 0, none⟩ = some (.slice A0 n c0) := (blk_cell hbx 0).trans rfl
  have hx := pw_cell_below hbW hx1
  have hf := frozen_below hbW hxl hfx
  have HB := Aside0.mk hbW
  clear hd hbW hbx
  go_wp2
  go_still_tail 9, (by kernel_rfl)
  still_call (A2.out _)
  repeat still_step
  try refine wpStill_nil ?_
  go_wp2
  go_end0
  exact ⟨rfl, W, 1, HB.out, rfl⟩
set_option maxRecDepth 100000 in
set_option maxHeartbeats 1000000 in
theorem poke_none (x : Nat) (img : Array Value) (rg addr a v : Int) (w : World) (hi : impl_Region.f addr = some (rg, a)) (h1 : (rg == 1) = false) (h5 : (rg == 5) = false) (h6 : (rg == 6) = false) :
  Calls Try.prog 77 #[.pointer (some ⟨x, 0, none⟩), .agg img, .int .i64 addr, .int .i64 v] w fun e w' => e = .returned (.tuple #[]) ∧ Below w.heap.size w w' := by
 have HI := Aside0.mk hi
 clear hi
 go_enter Try.func77, Try.ntmps77
 go_wp2_with fail
 refine (impl_Region.calls addr rg a _ HI.out).mono ?_
 rintro e W ⟨rfl, hd⟩
 have hbW : Below w.heap.size w W := below_step (below_alloc (Below.refl _ _) _) hd.below
 have HB := Aside0.mk hbW
 clear hd hbW
 go_wp2
 go_end0
 exact ⟨rfl, HB.out⟩
theorem poke_calls {w0 w : World} {x : Nat} {rv : Value} {b : Int} {ram : List Int} (h : MO w0 w x rv b ram) (A0 : Option Addr) (c0 n : Nat) (rg a addr v : Int) (hn0 : 0 < n) (hn1 : n ≤ 8) (h512 : ram.length = 512) (hi : impl_Region.f addr = some (rg, a)) (ha0 : 0 ≤ a) (ha1 : a < 512) :
  Calls Try.prog 77 #[.pointer (some ⟨x, 0, none⟩), .agg #[.slice A0 n c0], .int .i64 addr, .int .i64 v] w fun e w' => e = .returned (.tuple #[]) ∧ MO w0 w' x rv (pokeF n ram b rg a v).2 (pokeF n ram b rg a v).1 ∧ Kept w w' (fun j => j = x ∨ some j = rv.ownBlock) := by
 unfold pokeF
 by_cases h1 : rg = 1
 ·subst h1
  rw [if_pos rfl]
  obtain ⟨g, cap, rfl, hg, hgl, _⟩ := Kd.R_form h.row (by omega)
  obtain ⟨hcg, hfg⟩ := Kd.R_celln 0 h.row a ha0 (by omega)
  refine (poke_ram x g cap ram _ addr a v _ w hi ((blk_cell h.mem 0).trans rfl) hgl ha0 (by omega) hcg hfg).mono ?_
  rintro e w' ⟨rfl, W, m, hW, rfl⟩
  refine ⟨rfl, ((h.later hW).setR hg a (v % 256)).drewN m, ?_⟩
  exact (kept_set (Kept.of_below hW _) (.inr rfl) _).drewN m
 ·rw [if_neg h1]
  by_cases h56 : rg = 5 ∨ rg = 6
  ·rw [if_pos h56]
   refine (poke_bank x n A0 c0 n b rg addr a v w hi h56 ((blk_cell h.mem 1).trans rfl) (blk_frozen h.mem 1) (blk_lt h.mem) hn0 hn1).mono ?_
   rintro e w' ⟨rfl, W, m, hW, rfl⟩
   refine ⟨rfl, ((h.later hW).setB _).drewN m, ?_⟩
   exact (kept_set (Kept.of_below hW _) (.inl rfl) _).drewN m
  ·rw [if_neg h56]
   refine (poke_none x _ rg addr a v w hi (by simpa using h1) (by simpa using fun e => h56 (.inl e)) (by simpa using fun e => h56 (.inr e))).mono ?_
   rintro e w' ⟨rfl, hW⟩
   exact ⟨rfl, h.later hW, Kept.of_below hW _⟩

/-! ### mem_events (mine) -/
theorem eval_get {a : Act} {t : Nat} {v : Value} (h : a.eval (.tmp t) = v) : a.tmps[t]?.getD undef = v := by
 rw [← h]
 show _ = a.tmps.getD t undef
 rw [Array.getD_eq_getD_getElem?]
/-- What an operation of such a region may put: a memory in a row of its own; a memory beside a processor; a new block. -/
def isMem (lo : Nat) (xs : List Int) (b : Int) (v : Value) (w : World) : Prop := ∃ u, v = .agg #[u, .int .i64 b] ∧ Kd.R (Kd.int .i64) 3 w lo (fun _ => True) u xs
def isPair (lo : Nat) (xs : List Int) (b : Int) (c : Value) (v : Value) (w : World) : Prop := ∃ u, v = .tuple #[.agg #[u, .int .i64 b], c] ∧ Kd.R (Kd.int .i64) 3 w lo (fun _ => True) u xs
def isNew (lo : Nat) (t : TypeId) (cs : Array Value) (v : Value) (w : World) : Prop := ∃ g, v = .pointer (some ⟨g, 0, none⟩) ∧ lo ≤ g ∧ w.heap[g]? = some (.cells cs t (0, 0))
theorem isMem_below {lo : Nat} {xs : List Int} {b : Int} {v : Value} {w w' : World} (h : isMem lo xs b v w) (hb : Below w.heap.size w w') : isMem lo xs b v w' := by
 obtain ⟨u, e, r⟩ := h
 exact ⟨u, e, Kd.R_below r hb⟩
theorem isPair_below {lo : Nat} {xs : List Int} {b : Int} {c v : Value} {w w' : World} (h : isPair lo xs b c v w) (hb : Below w.heap.size w w') : isPair lo xs b c v w' := by
 obtain ⟨u, e, r⟩ := h
 exact ⟨u, e, Kd.R_below r hb⟩
theorem isNew_below {lo : Nat} {t : TypeId} {cs : Array Value} {v : Value} {w w' : World} (h : isNew lo t cs v w) (hb : Below w.heap.size w w') : isNew lo t cs v w' := by
 obtain ⟨g, e, hl, hg⟩ := h
 exact ⟨g, e, hl, blk_below hg hb⟩
theorem rowS2 {w : World} {r m : Nat} {ok : Nat → Prop} {rv : Value} {ram : List Int} {o0 o1 : Value} (h : Kd.R (Kd.int .i64) 3 w m ok rv ram) (hb : w.heap[r]? = some (.cells #[o0, o1] 32 (0, 0))) (u0 u1 : Value) :
  Kd.R (Kd.int .i64) 3 ((w.setCell ⟨r, 0, none⟩ u0).setCell ⟨r, 1, none⟩ u1) m ok rv ram :=
 Kd.R_mono (Kd.R_far (p := ⟨r, 1, none⟩) (Kd.R_far (p := ⟨r, 0, none⟩) (Kd.R_types h hb (by decide)) (fun _ hk => hk.2) u0) (fun _ hk => hk.2) u1) (fun _ hk => hk.1)
theorem rowS8 {w : World} {r m : Nat} {ok : Nat → Prop} {rv : Value} {ram : List Int} {o0 o1 o2 o3 o4 o5 o6 o7 : Value} (h : Kd.R (Kd.int .i64) 3 w m ok rv ram) (hb : w.heap[r]? = some (.cells #[o0, o1, o2, o3, o4, o5, o6, o7] 55 (0, 0))) (u0 u1 u2 u3 u4 u5 u6 u7 : Value) :
  Kd.R (Kd.int .i64) 3 ((((((((w.setCell ⟨r, 0, none⟩ u0).setCell ⟨r, 1, none⟩ u1).setCell ⟨r, 2, none⟩ u2).setCell ⟨r, 3, none⟩ u3).setCell ⟨r, 4, none⟩ u4).setCell ⟨r, 5, none⟩ u5).setCell ⟨r, 6, none⟩ u6).setCell ⟨r, 7, none⟩ u7) m ok rv ram :=
 Kd.R_mono (Kd.R_far (p := ⟨r, 7, none⟩) (Kd.R_far (p := ⟨r, 6, none⟩) (Kd.R_far (p := ⟨r, 5, none⟩) (Kd.R_far (p := ⟨r, 4, none⟩) (Kd.R_far (p := ⟨r, 3, none⟩) (Kd.R_far (p := ⟨r, 2, none⟩) (Kd.R_far (p := ⟨r, 1, none⟩) (Kd.R_far (p := ⟨r, 0, none⟩) (Kd.R_types h hb (by decide)) (fun _ hk => hk.2) u0) (fun _ hk => hk.2) u1) (fun _ hk => hk.2) u2) (fun _ hk => hk.2) u3) (fun _ hk => hk.2) u4) (fun _ hk => hk.2) u5) (fun _ hk => hk.2) u6) (fun _ hk => hk.2) u7) (fun _ hk => hk.1)
theorem below2 {w W : World} {r : Nat} (h : Below w.heap.size w W) (hr : w.heap.size ≤ r) (u0 u1 : Value) : Below w.heap.size w ((W.setCell ⟨r, 0, none⟩ u0).setCell ⟨r, 1, none⟩ u1) := below_set (below_set h hr) hr
/-- Behind the stores of a memory and of a processor into blocks of their own. -/
theorem stored {W : World} {g1 g2 : Nat} {q0 q1 : Value} {o0 o1 o2 o3 o4 o5 o6 o7 : Value} (hb1 : W.heap[g1]? = some (.cells #[q0, q1] 32 (0, 0))) (hb2 : W.heap[g2]? = some (.cells #[o0, o1, o2, o3, o4, o5, o6, o7] 55 (0, 0))) (p0 p1 : Value) (u0 u1 u2 u3 u4 u5 u6 u7 : Value) :
  ((((((((((W.setCell ⟨g1, 0, none⟩ p0).setCell ⟨g1, 1, none⟩ p1).setCell ⟨g2, 0, none⟩ u0).setCell ⟨g2, 1, none⟩ u1).setCell ⟨g2, 2, none⟩ u2).setCell ⟨g2, 3, none⟩ u3).setCell ⟨g2, 4, none⟩ u4).setCell ⟨g2, 5, none⟩ u5).setCell ⟨g2, 6, none⟩ u6).setCell ⟨g2, 7, none⟩ u7).heap[g1]? = some (.cells #[p0, p1] 32 (0, 0)) ∧ ((((((((((W.setCell ⟨g1, 0, none⟩ p0).setCell ⟨g1, 1, none⟩ p1).setCell ⟨g2, 0, none⟩ u0).setCell ⟨g2, 1, none⟩ u1).setCell ⟨g2, 2, none⟩ u2).setCell ⟨g2, 3, none⟩ u3).setCell ⟨g2, 4, none⟩ u4).setCell ⟨g2, 5, none⟩ u5).setCell ⟨g2, 6, none⟩ u6).setCell ⟨g2, 7, none⟩ u7).heap[g2]? = some (.cells #[u0, u1, u2, u3, u4, u5, u6, u7] 55 (0, 0)) ∧ (∀ k, k ≠ g1 → k ≠ g2 → ((((((((((W.setCell ⟨g1, 0, none⟩ p0).setCell ⟨g1, 1, none⟩ p1).setCell ⟨g2, 0, none⟩ u0).setCell ⟨g2, 1, none⟩ u1).setCell ⟨g2, 2, none⟩ u2).setCell ⟨g2, 3, none⟩ u3).setCell ⟨g2, 4, none⟩ u4).setCell ⟨g2, 5, none⟩ u5).setCell ⟨g2, 6, none⟩ u6).setCell ⟨g2, 7, none⟩ u7).heap[k]? = W.heap[k]?) ∧
   (∀ lo ok u xs, Kd.R (Kd.int .i64) 3 W lo ok u xs → Kd.R (Kd.int .i64) 3 ((((((((((W.setCell ⟨g1, 0, none⟩ p0).setCell ⟨g1, 1, none⟩ p1).setCell ⟨g2, 0, none⟩ u0).setCell ⟨g2, 1, none⟩ u1).setCell ⟨g2, 2, none⟩ u2).setCell ⟨g2, 3, none⟩ u3).setCell ⟨g2, 4, none⟩ u4).setCell ⟨g2, 5, none⟩ u5).setCell ⟨g2, 6, none⟩ u6).setCell ⟨g2, 7, none⟩ u7) lo ok u xs) ∧ (∀ w : World, Below w.heap.size w W → w.heap.size ≤ g1 → w.heap.size ≤ g2 → Below w.heap.size w ((((((((((W.setCell ⟨g1, 0, none⟩ p0).setCell ⟨g1, 1, none⟩ p1).setCell ⟨g2, 0, none⟩ u0).setCell ⟨g2, 1, none⟩ u1).setCell ⟨g2, 2, none⟩ u2).setCell ⟨g2, 3, none⟩ u3).setCell ⟨g2, 4, none⟩ u4).setCell ⟨g2, 5, none⟩ u5).setCell ⟨g2, 6, none⟩ u6).setCell ⟨g2, 7, none⟩ u7)) := by
 have hne : g1 ≠ g2 := blk_ne hb1 hb2 (by decide)
 have h2 : ((W.setCell ⟨g1, 0, none⟩ p0).setCell ⟨g1, 1, none⟩ p1).heap[g2]? = some (.cells #[o0, o1, o2, o3, o4, o5, o6, o7] 55 (0, 0)) := (heap2 _ _ _ _ _ hne.symm).trans hb2
 exact ⟨(heap8 _ _ _ _ _ _ _ _ _ _ _ hne).trans (put2 hb1 _ _), put8 h2 _ _ _ _ _ _ _ _, fun k h h' => (heap8 _ _ _ _ _ _ _ _ _ _ _ h').trans (heap2 _ _ _ _ _ h),
  fun lo ok u xs h => rowS8 (rowS2 h hb1 _ _) h2 _ _ _ _ _ _ _ _, fun w h k1 k2 => below8 (below2 h k1 _ _) k2 _ _ _ _ _ _ _ _⟩

/-! ### impl_Poke (mine) -/
theorem copyMem_just {l0 r1 : List Int} {b r2 : Int} (h : impl_copyMem.f l0 b = some (r1, r2)) : r1 = l0 ∧ r2 = b := by
 unfold impl_copyMem.f impl_copyInts.f at h
 simp only [Option.bind_some] at h
 split at h
 ·simp only [Option.bind_some, Option.some.injEq, Prod.mk.injEq, List.nil_append] at h
  exact ⟨h.1.symm, h.2.symm⟩
 ·simp at h
set_option maxRecDepth 100000 in
set_option maxHeartbeats 2000000 in
theorem implPoke_yes (k : Nat) (A0 : Option Addr) (c0 : Nat) (l0 : List (List Int)) (A1 : Option Addr) (c1 : Nat) (l1 : List Int) (b addr v rg a : Int) (w : World) (hr : Kd.C (Kd.slice 3 (Kd.int .i64)) w A0 l0.length l0) (hc : l0.length ≤ c0) (hr1 : Kd.C (Kd.int .i64) w A1 l1.length l1) (hc1 : l1.length ≤ c1)
  (h : impl_copyMem.f l1 b = some (l1, b)) (hok : impl_MemOk.f k l0 l1 b = some true) (hi : impl_Region.f addr = some (rg, a)) (hn0 : 0 < l0.length) (hn1 : l0.length ≤ 8) (h512 : l1.length = 512) (ha0 : 0 ≤ a) (ha1 : a < 512) :
  Calls Try.prog 30 #[.agg #[.slice A0 l0.length c0], .agg #[.slice A1 l1.length c1, .int .i64 b], .int .i64 addr, .int .i64 v] w fun e w' => ∃ v0_ : Value, e = .returned (.agg #[v0_, .int .i64 (pokeF l0.length l1 b rg a v).2]) ∧ Kd.R (Kd.int .i64) 3 w' w.heap.size (fun _ => True) v0_ (pokeF l0.length l1 b rg a v).1 ∧ Below w.heap.size w w' := by
 have hu37 := Try.underlying32
 have hu27 := Try.underlying29
 have HR := Aside0.mk hr
 have HC := Aside0.mk hc
 have HR1 := Aside0.mk hr1
 have HC1 := Aside0.mk hc1
 have H := Aside0.mk h
 have HOK := Aside0.mk hok
 have HI := Aside0.mk hi
 have HN := Aside0.mk (show (0 < l0.length ∧ l0.length ≤ 8) ∧ l1.length = 512 ∧ 0 ≤ a ∧ a < 512 from ⟨⟨hn0, hn1⟩, h512, ha0, ha1⟩)
 clear hr hc h hr1 hc1 hok hi hn0 hn1 h512 ha0 ha1
 go_enter Try.func30, Try.ntmps30
 go_wp2_with fail
 refine (impl_copyMem.calls A1 c1 l1 b l1 b _ ?hr HC1.out H.out).mono ?_
 case hr => repeat (first | exact HR1.out | (with_reducible refine Kd.C_alloc ?_ _))
 rintro e W2 ⟨v0, rfl, hR, hB⟩
 obtain ⟨A2, c2, rfl⟩ := Kd.R_slice hR
 have b0 : W2.heap[w.heap.size]? = some (.cells #[.slice A0 l0.length c0] 29 (0, 0)) := blk_below (blk_alloc (blk_alloc (alloc_at _ _ _ rfl) _) _) hB
 have b1 : W2.heap[w.heap.size + 1]? = some (.cells #[.slice A1 l1.length c1, .int .i64 b] 32 (0, 0)) := blk_below (blk_alloc (alloc_at _ _ _ (by simp only [alloc_size])) _) hB
 have b2 : W2.heap[w.heap.size + 2]? = some (.cells #[.slice none 0 0, .int .i64 0] 32 (0, 0)) := blk_below (alloc_at _ _ _ (by simp only [alloc_size])) hB
 have hsz : w.heap.size + 3 ≤ W2.heap.size := by have := hB.size; simp only [alloc_size] at this; omega
 have hbel : Below w.heap.size w W2 := below_step (by repeat (first | exact Below.refl _ _ | apply below_alloc)) hB
 have hR' := Kd.R_lower hR (show w.heap.size ≤ _ by simp only [alloc_size]; omega)
 have RR := Aside0.mk hR'
 have BB := Aside0.mk hbel
 have B0 := Aside0.mk b0
 have B1 := Aside0.mk b1
 have B2 := Aside0.mk b2
 have hM : Aside0 (MO w (W2.alloc (.cells #[.slice A2 l1.length c2, .int .i64 b] 32)) W2.heap.size (.slice A2 l1.length c2) b l1) :=
  ⟨⟨blk_new W2 _, Kd.R_alloc RR.out _, by omega, below_alloc hbel _⟩⟩
 clear hR hB hR' hbel b0 b1 b2
 have y0 : (W2.alloc (.cells #[.slice A2 l1.length c2, .int .i64 b] 32)).cell? ⟨w.heap.size, 0, none⟩ = some (.slice A0 l0.length c0) := (blk_cell (blk_alloc B0.out _) 0).trans rfl
 have y1 : (W2.alloc (.cells #[.slice A2 l1.length c2, .int .i64 b] 32)).cell? ⟨w.heap.size + 1, 0, none⟩ = some (.slice A1 l1.length c1) := (blk_cell (blk_alloc B1.out _) 0).trans rfl
 have y2 : (W2.alloc (.cells #[.slice A2 l1.length c2, .int .i64 b] 32)).cell? ⟨w.heap.size + 1, 1, none⟩ = some (.int .i64 b) := (blk_cell (blk_alloc B1.out _) 1).trans rfl
 have HSZ := Aside0.mk hsz
 clear hsz
 go_wp2_with fail
 have c0_ := Aside0.mk (blk_alloc B0.out (.cells #[.slice A2 l1.length c2, .int .i64 b] 32))
 have c2_ := Aside0.mk (blk_alloc B2.out (.cells #[.slice A2 l1.length c2, .int .i64 b] 32))
 have cb_ := Aside0.mk (below_alloc BB.out (.cells #[.slice A2 l1.length c2, .int .i64 b] 32))
 clear y0 y1 y2 B0 B1 B2 BB RR
 generalize W2.alloc (.cells #[.slice A2 l1.length c2, .int .i64 b] 32) = W3 at *
 generalize W2.heap.size = gx at *
 refine (impl_MemOk.calls k A0 c0 l0 A1 c1 l1 b true _ (Kd.C_below HR.out cb_.out) HC.out (Kd.C_below HR1.out cb_.out) HC1.out HOK.out).mono ?_
 rintro e W4 ⟨rfl, hB4⟩
 have M4 := Aside0.mk (hM.out.later hB4)
 have d0_ := Aside0.mk (blk_below c0_.out hB4)
 have d2_ := Aside0.mk (blk_below c2_.out hB4)
 clear hB4 hM c0_ c2_ cb_ HR HC HR1 HC1 H HOK
 have y0 : W4.cell? ⟨w.heap.size, 0, none⟩ = some (.slice A0 l0.length c0) := (blk_cell d0_.out 0).trans rfl
 go_wp2_with fail
 refine (poke_calls M4.out A0 c0 l0.length rg a addr v HN.out.1.1 HN.out.1.2 HN.out.2.1 HI.out HN.out.2.2.1 HN.out.2.2.2).mono ?_
 rintro e W5 ⟨rfl, h5, k5⟩
 have e2 := blk_kept d2_.out k5 (fun h => h.elim (fun h => by have := HSZ.out; omega) (fun h => Kd.R_ne M4.out.row d2_.out (by decide) h))
 clear y0 k5 d0_ d2_ HI HN
 have z0 : W5.cell? ⟨gx, 0, none⟩ = some (.slice A2 l1.length c2) := (blk_cell h5.mem 0).trans rfl
 have z1 := (blk_cell h5.mem 1).trans rfl
 have z2 : W5.cell? ⟨w.heap.size + 1 + 1, 0, none⟩ = some (.slice none 0 0) := (blk_cell e2 0).trans rfl
 have z3 : W5.cell? ⟨w.heap.size + 1 + 1, 1, none⟩ = some (.int .i64 0) := (blk_cell e2 1).trans rfl
 have z4 := blk_frozen e2 0
 have z5 := blk_frozen e2 1
 have H5 := Aside0.mk h5
 have E2 := Aside0.mk e2
 clear h5 e2 M4
 go_wp2
 refine bodyPost_ret (results_cell_row rfl _ _ (w.heap.size + 2) 32 #[.slice A2 l1.length c2, .int .i64 (pokeF l0.length l1 b rg a v).2] (0, 0) _ rfl (put2 E2.out _ _) hu37 rfl (by kernel_rfl)) rfl ?_
 exact ⟨_, rfl, rowS2 H5.out.row E2.out _ _, below2 H5.out.below (by omega) _ _⟩
set_option maxRecDepth 100000 in
set_option maxHeartbeats 2000000 in
theorem implPoke_no (k : Nat) (A0 : Option Addr) (c0 : Nat) (l0 : List (List Int)) (A1 : Option Addr) (c1 : Nat) (l1 : List Int) (b addr v : Int) (w : World) (hr : Kd.C (Kd.slice 3 (Kd.int .i64)) w A0 l0.length l0) (hc : l0.length ≤ c0) (hr1 : Kd.C (Kd.int .i64) w A1 l1.length l1) (hc1 : l1.length ≤ c1)
  (h : impl_copyMem.f l1 b = some (l1, b)) (hok : impl_MemOk.f k l0 l1 b = some false) :
  Calls Try.prog 30 #[.agg #[.slice A0 l0.length c0], .agg #[.slice A1 l1.length c1, .int .i64 b], .int .i64 addr, .int .i64 v] w fun e w' => ∃ v0_ : Value, e = .returned (.agg #[v0_, .int .i64 b]) ∧ Kd.R (Kd.int .i64) 3 w' w.heap.size (fun _ => True) v0_ l1 ∧ Below w.heap.size w w' := by
 have hu37 := Try.underlying32
 have hu27 := Try.underlying29
 have HR := Aside0.mk hr
 have HC := Aside0.mk hc
 have HR1 := Aside0.mk hr1
 have HC1 := Aside0.mk hc1
 have H := Aside0.mk h
 have HOK := Aside0.mk hok
 clear hr hc h hr1 hc1 hok
 go_enter Try.func30, Try.ntmps30
 go_wp2_with fail
 refine (impl_copyMem.calls A1 c1 l1 b l1 b _ ?hr HC1.out H.out).mono ?_
 case hr => repeat (first | exact HR1.out | (with_reducible refine Kd.C_alloc ?_ _))
 rintro e W2 ⟨v0, rfl, hR, hB⟩
 obtain ⟨A2, c2, rfl⟩ := Kd.R_slice hR
 have b0 : W2.heap[w.heap.size]? = some (.cells #[.slice A0 l0.length c0] 29 (0, 0)) := blk_below (blk_alloc (blk_alloc (alloc_at _ _ _ rfl) _) _) hB
 have b1 : W2.heap[w.heap.size + 1]? = some (.cells #[.slice A1 l1.length c1, .int .i64 b] 32 (0, 0)) := blk_below (blk_alloc (alloc_at _ _ _ (by simp only [alloc_size])) _) hB
 have b2 : W2.heap[w.heap.size + 2]? = some (.cells #[.slice none 0 0, .int .i64 0] 32 (0, 0)) := blk_below (alloc_at _ _ _ (by simp only [alloc_size])) hB
 have hsz : w.heap.size + 3 ≤ W2.heap.size := by have := hB.size; simp only [alloc_size] at this; omega
 have hbel : Below w.heap.size w W2 := below_step (by repeat (first | exact Below.refl _ _ | apply below_alloc)) hB
 have hR' := Kd.R_lower hR (show w.heap.size ≤ _ by simp only [alloc_size]; omega)
 have RR := Aside0.mk hR'
 have BB := Aside0.mk hbel
 have B0 := Aside0.mk b0
 have B1 := Aside0.mk b1
 have B2 := Aside0.mk b2
 have hM : Aside0 (MO w (W2.alloc (.cells #[.slice A2 l1.length c2, .int .i64 b] 32)) W2.heap.size (.slice A2 l1.length c2) b l1) :=
  ⟨⟨blk_new W2 _, Kd.R_alloc RR.out _, by omega, below_alloc hbel _⟩⟩
 clear hR hB hR' hbel b0 b1 b2
 have y0 : (W2.alloc (.cells #[.slice A2 l1.length c2, .int .i64 b] 32)).cell? ⟨w.heap.size, 0, none⟩ = some (.slice A0 l0.length c0) := (blk_cell (blk_alloc B0.out _) 0).trans rfl
 have y1 : (W2.alloc (.cells #[.slice A2 l1.length c2, .int .i64 b] 32)).cell? ⟨w.heap.size + 1, 0, none⟩ = some (.slice A1 l1.length c1) := (blk_cell (blk_alloc B1.out _) 0).trans rfl
 have y2 : (W2.alloc (.cells #[.slice A2 l1.length c2, .int .i64 b] 32)).cell? ⟨w.heap.size + 1, 1, none⟩ = some (.int .i64 b) := (blk_cell (blk_alloc B1.out _) 1).trans rfl
 have HSZ := Aside0.mk hsz
 clear hsz
 go_wp2_with fail
 have c0_ := Aside0.mk (blk_alloc B0.out (.cells #[.slice A2 l1.length c2, .int .i64 b] 32))
 have c2_ := Aside0.mk (blk_alloc B2.out (.cells #[.slice A2 l1.length c2, .int .i64 b] 32))
 have cb_ := Aside0.mk (below_alloc BB.out (.cells #[.slice A2 l1.length c2, .int .i64 b] 32))
 clear y0 y1 y2 B0 B1 B2 BB RR
 generalize W2.alloc (.cells #[.slice A2 l1.length c2, .int .i64 b] 32) = W3 at *
 generalize W2.heap.size = gx at *
 refine (impl_MemOk.calls k A0 c0 l0 A1 c1 l1 b false _ (Kd.C_below HR.out cb_.out) HC.out (Kd.C_below HR1.out cb_.out) HC1.out HOK.out).mono ?_
 rintro e W4 ⟨rfl, hB4⟩
 have M4 := Aside0.mk (hM.out.later hB4)
 have d0_ := Aside0.mk (blk_below c0_.out hB4)
 have d2_ := Aside0.mk (blk_below c2_.out hB4)
 clear hB4 hM c0_ c2_ cb_ HR HC HR1 HC1 H HOK
 have h5 := M4.out
 have e2 := d2_.out
 clear d0_ d2_
 have z0 : W4.cell? ⟨gx, 0, none⟩ = some (.slice A2 l1.length c2) := (blk_cell h5.mem 0).trans rfl
 have z1 := (blk_cell h5.mem 1).trans rfl
 have z2 : W4.cell? ⟨w.heap.size + 1 + 1, 0, none⟩ = some (.slice none 0 0) := (blk_cell e2 0).trans rfl
 have z3 : W4.cell? ⟨w.heap.size + 1 + 1, 1, none⟩ = some (.int .i64 0) := (blk_cell e2 1).trans rfl
 have z4 := blk_frozen e2 0
 have z5 := blk_frozen e2 1
 have H5 := Aside0.mk h5
 have E2 := Aside0.mk e2
 clear h5 e2 M4
 go_wp2
 refine bodyPost_ret (results_cell_row rfl _ _ (w.heap.size + 2) 32 #[.slice A2 l1.length c2, .int .i64 b] (0, 0) _ rfl (put2 E2.out _ _) hu37 rfl (by kernel_rfl)) rfl ?_
 exact ⟨_, rfl, rowS2 H5.out.row E2.out _ _, below2 H5.out.below (by omega) _ _⟩
def impl_Poke.f (k : Nat) (l0_0 : List (List Int)) (l1_0 : List Int) (a1_1 : Int) (a2 : Int) (a3 : Int) : Option (List Int × Int) :=
 (impl_copyMem.f l1_0 a1_1).bind fun q => (impl_MemOk.f k l0_0 l1_0 a1_1).bind fun ok => if ok = true then (impl_Region.f a2).bind fun g =>
  if (0 < l0_0.length ∧ l0_0.length ≤ 8) ∧ l1_0.length = 512 ∧ 0 ≤ g.2 ∧ g.2 < 512 then some (pokeF l0_0.length l1_0 a1_1 g.1 g.2 a3) else none else some (l1_0, a1_1)
theorem impl_Poke.calls (k : Nat) (A0_0 : Option Addr) (c0_0 : Nat) (l0_0 : List (List Int)) (A1_0 : Option Addr) (c1_0 : Nat) (l1_0 : List Int) (a1_1 : Int) (a2 : Int) (a3 : Int) (r1 : List Int) (r2 : Int) (w : World) (hr0_0 : Kd.C (Kd.slice 3 (Kd.int .i64)) w A0_0 l0_0.length l0_0) (hc0_0 : l0_0.length ≤ c0_0) (hr1_0 : Kd.C (Kd.int .i64) w A1_0 l1_0.length l1_0) (hc1_0 : l1_0.length ≤ c1_0) (h : impl_Poke.f k l0_0 l1_0 a1_1 a2 a3 = some (r1, r2)) :
  Calls Try.prog 30 #[.agg #[.slice A0_0 l0_0.length c0_0], .agg #[.slice A1_0 l1_0.length c1_0, .int .i64 a1_1], .int .i64 a2, .int .i64 a3] w fun e w' => ∃ v0_ : Value, e = .returned (.agg #[v0_, .int .i64 r2]) ∧ Kd.R (Kd.int .i64) 3 w' w.heap.size (fun _ => True) v0_ r1 ∧ Below w.heap.size w w' := by
 unfold impl_Poke.f at h
 obtain ⟨⟨q1, q2⟩, hq, h2⟩ := Option.bind_eq_some_iff.mp h
 obtain ⟨ok, hok, h3⟩ := Option.bind_eq_some_iff.mp h2
 clear h h2
 obtain ⟨rfl, rfl⟩ := copyMem_just hq
 cases ok with
 | true =>
  rw [if_pos rfl] at h3
  obtain ⟨⟨rg, a⟩, hi, h4⟩ := Option.bind_eq_some_iff.mp h3
  clear h3
  by_cases hall : (0 < l0_0.length ∧ l0_0.length ≤ 8) ∧ q1.length = 512 ∧ 0 ≤ a ∧ a < 512
  ·rw [if_pos hall] at h4
   have e := Option.some.inj h4
   have e1 : (pokeF l0_0.length q1 q2 rg a a3).1 = r1 := by rw [e]
   have e2 : (pokeF l0_0.length q1 q2 rg a a3).2 = r2 := by rw [e]
   subst e1 e2
   exact implPoke_yes k A0_0 c0_0 l0_0 A1_0 c1_0 q1 q2 a2 a3 rg a w hr0_0 hc0_0 hr1_0 hc1_0 hq hok hi hall.1.1 hall.1.2 hall.2.1 hall.2.2.1 hall.2.2.2
  ·rw [if_neg hall] at h4
   cases h4
 | false =>
  rw [if_neg (by decide)] at h3
  cases h3
  exact implPoke_no k A0_0 c0_0 l0_0 A1_0 c1_0 _ _ a2 a3 w hr0_0 hc0_0 hr1_0 hc1_0 hq hok

/-! ### spec_Addr: function 61 -/
def spec_Addr.f (a0 : Int) : Option (Int) := some (Go.bits .and .i64 a0 65535)
set_option maxHeartbeats 8000000 in
set_option maxRecDepth 100000 in
theorem spec_Addr.calls (a0 : Int) (r : Int) (w : World) (h : spec_Addr.f a0 = some r) :
  Calls Try.prog 61 #[.int .i64 a0] w fun e w' => e = .returned (.int .i64 r) ∧ Drawn0 w w' := by
 have H : (some (Go.bits .and .i64 a0 65535)) = some r := h
 clear h
 obtain rfl := Option.some.inj H
 go_enter Try.func61, Try.ntmps61
 go_wp2
 go_ret
 exact ⟨by first | rfl | (simp; done) | (simp [*]; done), by repeat (first | exact Drawn0.refl _ | apply Drawn0.step)⟩

/-! ### spec_Region: function 12 -/
def spec_Region.f (a0 : Int) : Option (Int × Int) := (spec_Addr.f a0).bind fun t447 => (if t447 < 8192 then (some (1, Int.tmod t447 512)) else (if t447 < 16384 then (some (2, Int.tmod t447 8)) else (if t447 < 16388 then (some (3, Int.tmod t447 4)) else (if t447 = 16406 then (some (4, 0)) else (if t447 < 32768 then (some (7, 0)) else (if t447 < 49152 then (some (5, Int.tmod t447 256)) else (some (6, Int.tmod t447 256))))))))
set_option maxHeartbeats 8000000 in
set_option maxRecDepth 100000 in
theorem spec_Region.calls (a0 : Int) (r1 : Int) (r2 : Int) (w : World) (h : spec_Region.f a0 = some (r1, r2)) :
  Calls Try.prog 12 #[.int .i64 a0] w fun e w' => e = .returned (.tuple #[.int .i64 r1, .int .i64 r2]) ∧ Drawn0 w w' := by
 have H : ((spec_Addr.f a0).bind fun t447 => (if t447 < 8192 then (some (1, Int.tmod t447 512)) else (if t447 < 16384 then (some (2, Int.tmod t447 8)) else (if t447 < 16388 then (some (3, Int.tmod t447 4)) else (if t447 = 16406 then (some (4, 0)) else (if t447 < 32768 then (some (7, 0)) else (if t447 < 49152 then (some (5, Int.tmod t447 256)) else (some (6, Int.tmod t447 256))))))))) = some (r1, r2) := h
 clear h
 replace H := Option.bind_eq_some_iff.mp H
 obtain ⟨t447, A20, H⟩ := H
 replace H : (if t447 < 8192 then (some (1, Int.tmod t447 512)) else (if t447 < 16384 then (some (2, Int.tmod t447 8)) else (if t447 < 16388 then (some (3, Int.tmod t447 4)) else (if t447 = 16406 then (some (4, 0)) else (if t447 < 32768 then (some (7, 0)) else (if t447 < 49152 then (some (5, Int.tmod t447 256)) else (some (6, Int.tmod t447 256)))))))) = some (r1, r2) := H
 have A2 := Aside0.mk A20
 clear A20
 by_cases c3 : t447 < 8192
 ·rw [if_pos c3] at H
  have c3b0 : decide (t447 < 8192) = true := decide_eq_true c3
  clear c3
  simp only [Option.some.injEq, Prod.mk.injEq] at H
  obtain ⟨rfl, rfl⟩ := H
  go_enter Try.func12, Try.ntmps12
  go_wp2_with (first | ((with_reducible refine gate_callee (f := 61) rfl ?_); refine goesM_ (some 6) rfl rfl Try.func61 #[.int .i64 a0] ?_; (with_reducible refine (spec_Addr.calls a0 t447 _ A2.out).mono ?_); rintro e w' ⟨rfl, ⟨nd, rfl⟩⟩; refine ⟨_, rfl, ?_⟩))
  go_ret2
  exact ⟨by first | rfl | (simp; done) | (simp [*]; done), by repeat (first | exact Drawn0.refl _ | apply Drawn0.step)⟩
 ·rw [if_neg c3] at H
  have c3b0 : decide (t447 < 8192) = false := decide_eq_false c3
  clear c3
  by_cases c4 : t447 < 16384
  ·rw [if_pos c4] at H
   have c4b0 : decide (t447 < 16384) = true := decide_eq_true c4
   clear c4
   simp only [Option.some.injEq, Prod.mk.injEq] at H
   obtain ⟨rfl, rfl⟩ := H
   go_enter Try.func12, Try.ntmps12
   go_wp2_with (first | ((with_reducible refine gate_callee (f := 61) rfl ?_); refine goesM_ (some 6) rfl rfl Try.func61 #[.int .i64 a0] ?_; (with_reducible refine (spec_Addr.calls a0 t447 _ A2.out).mono ?_); rintro e w' ⟨rfl, ⟨nd, rfl⟩⟩; refine ⟨_, rfl, ?_⟩))
   go_ret2
   exact ⟨by first | rfl | (simp; done) | (simp [*]; done), by repeat (first | exact Drawn0.refl _ | apply Drawn0.step)⟩
  ·rw [if_neg c4] at H
   have c4b0 : decide (t447 < 16384) = false := decide_eq_false c4
   clear c4
   by_cases c5 : t447 < 16388
   ·rw [if_pos c5] at H
    have c5b0 : decide (t447 < 16388) = true := decide_eq_true c5
    clear c5
    simp only [Option.some.injEq, Prod.mk.injEq] at H
    obtain ⟨rfl, rfl⟩ := H
    go_enter Try.func12, Try.ntmps12
    go_wp2_with (first | ((with_reducible refine gate_callee (f := 61) rfl ?_); refine goesM_ (some 6) rfl rfl Try.func61 #[.int .i64 a0] ?_; (with_reducible refine (spec_Addr.calls a0 t447 _ A2.out).mono ?_); rintro e w' ⟨rfl, ⟨nd, rfl⟩⟩; refine ⟨_, rfl, ?_⟩))
    go_ret2
    exact ⟨by first | rfl | (simp; done) | (simp [*]; done), by repeat (first | exact Drawn0.refl _ | apply Drawn0.step)⟩
   ·rw [if_neg c5] at H
    have c5b0 : decide (t447 < 16388) = false := decide_eq_false c5
    clear c5
    by_cases c6 : t447 = 16406
    ·rw [if_pos c6] at H
     have c6b0 : (t447 == 16406) = true := beq_iff_eq.mpr c6
     have c6b1 : (t447 != 16406) = false := bne_eq_false_iff_eq.mpr c6
     clear c6
     simp only [Option.some.injEq, Prod.mk.injEq] at H
     obtain ⟨rfl, rfl⟩ := H
     go_enter Try.func12, Try.ntmps12
     go_wp2_with (first | ((with_reducible refine gate_callee (f := 61) rfl ?_); refine goesM_ (some 6) rfl rfl Try.func61 #[.int .i64 a0] ?_; (with_reducible refine (spec_Addr.calls a0 t447 _ A2.out).mono ?_); rintro e w' ⟨rfl, ⟨nd, rfl⟩⟩; refine ⟨_, rfl, ?_⟩))
     go_ret2
     exact ⟨by first | rfl | (simp; done) | (simp [*]; done), by repeat (first | exact Drawn0.refl _ | apply Drawn0.step)⟩
    ·rw [if_neg c6] at H
     have c6b0 : (t447 == 16406) = false := beq_eq_false_iff_ne.mpr c6
     have c6b1 : (t447 != 16406) = true := bne_iff_ne.mpr c6
     by_cases c7 : t447 < 32768
     ·rw [if_pos c7] at H
      have c7b0 : decide (t447 < 32768) = true := decide_eq_true c7
      clear c7
      simp only [Option.some.injEq, Prod.mk.injEq] at H
      obtain ⟨rfl, rfl⟩ := H
      go_enter Try.func12, Try.ntmps12
      go_wp2_with (first | ((with_reducible refine gate_callee (f := 61) rfl ?_); refine goesM_ (some 6) rfl rfl Try.func61 #[.int .i64 a0] ?_; (with_reducible refine (spec_Addr.calls a0 t447 _ A2.out).mono ?_); rintro e w' ⟨rfl, ⟨nd, rfl⟩⟩; refine ⟨_, rfl, ?_⟩))
      go_ret2
      exact ⟨by first | rfl | (simp; done) | (simp [*]; done), by repeat (first | exact Drawn0.refl _ | apply Drawn0.step)⟩
     ·rw [if_neg c7] at H
      have c7b0 : decide (t447 < 32768) = false := decide_eq_false c7
      clear c7
      by_cases c8 : t447 < 49152
      ·rw [if_pos c8] at H
       have c8b0 : decide (t447 < 49152) = true := decide_eq_true c8
       clear c8
       simp only [Option.some.injEq, Prod.mk.injEq] at H
       obtain ⟨rfl, rfl⟩ := H
       go_enter Try.func12, Try.ntmps12
       go_wp2_with (first | ((with_reducible refine gate_callee (f := 61) rfl ?_); refine goesM_ (some 6) rfl rfl Try.func61 #[.int .i64 a0] ?_; (with_reducible refine (spec_Addr.calls a0 t447 _ A2.out).mono ?_); rintro e w' ⟨rfl, ⟨nd, rfl⟩⟩; refine ⟨_, rfl, ?_⟩))
       go_ret2
       exact ⟨by first | rfl | (simp; done) | (simp [*]; done), by repeat (first | exact Drawn0.refl _ | apply Drawn0.step)⟩
      ·rw [if_neg c8] at H
       have c8b0 : decide (t447 < 49152) = false := decide_eq_false c8
       clear c8
       simp only [Option.some.injEq, Prod.mk.injEq] at H
       obtain ⟨rfl, rfl⟩ := H
       go_enter Try.func12, Try.ntmps12
       go_wp2_with (first | ((with_reducible refine gate_callee (f := 61) rfl ?_); refine goesM_ (some 6) rfl rfl Try.func61 #[.int .i64 a0] ?_; (with_reducible refine (spec_Addr.calls a0 t447 _ A2.out).mono ?_); rintro e w' ⟨rfl, ⟨nd, rfl⟩⟩; refine ⟨_, rfl, ?_⟩))
       go_ret2
       exact ⟨by first | rfl | (simp; done) | (simp [*]; done), by repeat (first | exact Drawn0.refl _ | apply Drawn0.step)⟩

/-! ### spec_ImageOk: function 20 -/
mutual
def spec_ImageOk.l0 : Nat → Int → List (List Int) → Option (Bool)
 | 0, _, _ => none
 | k + 1, x3, x449000 => if x3 < (x449000.length : Int) then (if 0 ≤ x3 then (if ((rd_L2 x449000 x3).length : Int) = 256 then (spec_ImageOk.l1 k x3 0 x449000) else (some false)) else (none)) else ((spec_l1In.f (x449000.length : Int) 1 8).bind fun t449 => (some t449))
def spec_ImageOk.l1 : Nat → Int → Int → List (List Int) → Option (Bool)
 | 0, _, _, _ => none
 | k + 1, x3, x4, x449000 => if x4 < 256 then (if 0 ≤ x3 then (if x3 < (x449000.length : Int) then (if 0 ≤ x4 then (if x4 < ((rd_L2 x449000 x3).length : Int) then ((spec_l1In.f (rd (rd_L2 x449000 x3) x4) 0 255).bind fun t453 => (if t453 = true then (spec_ImageOk.l1 k x3 (wrap64 (x4 + 1)) x449000) else (some false))) else (none)) else (none)) else (none)) else (none)) else (spec_ImageOk.l0 k (wrap64 (x3 + 1)) x449000)
end
def spec_ImageOk.f (k : Nat) (l0_0 : List (List Int)) : Option (Bool) := spec_ImageOk.l0 k 0 l0_0
theorem spec_ImageOk.mono_l : ∀ k, (∀ y0 y1, LeO (spec_ImageOk.l0 k y0 y1) (spec_ImageOk.l0 (k + 1) y0 y1)) ∧ (∀ y0 y1 y2, LeO (spec_ImageOk.l1 k y0 y1 y2) (spec_ImageOk.l1 (k + 1) y0 y1 y2))
 | 0 => ⟨fun _ _ r h => by simp [spec_ImageOk.l0] at h, fun _ _ _ r h => by simp [spec_ImageOk.l1] at h⟩
 | k + 1 => by
  obtain ⟨ih0, ih1⟩ := spec_ImageOk.mono_l k
  refine ⟨?_, ?_⟩
  ·intro y0 y1
   unfold spec_ImageOk.l0
   repeat' first
   | (with_reducible exact ih0 _ _)
   | (with_reducible exact ih1 _ _ _)
   | (with_reducible exact LeO.refl _)
   | (with_reducible exact LeO.none _)
   | (with_reducible refine LeO.ite ?_ ?_)
   | (with_reducible refine LeO.bind ?_ (fun _ => ?_))
   | exact ih0 _ _
   | exact ih1 _ _ _
   | exact LeO.none _
   | refine LeO.ite ?_ ?_
   | refine LeO.bind ?_ (fun _ => ?_)
  ·intro y0 y1 y2
   unfold spec_ImageOk.l1
   repeat' first
   | (with_reducible exact ih0 _ _)
   | (with_reducible exact ih1 _ _ _)
   | (with_reducible exact LeO.refl _)
   | (with_reducible exact LeO.none _)
   | (with_reducible refine LeO.ite ?_ ?_)
   | (with_reducible refine LeO.bind ?_ (fun _ => ?_))
   | exact ih0 _ _
   | exact ih1 _ _ _
   | exact LeO.none _
   | refine LeO.ite ?_ ?_
   | refine LeO.bind ?_ (fun _ => ?_)
theorem spec_ImageOk.mono : ∀ a0 k, LeO (spec_ImageOk.f k a0) (spec_ImageOk.f (k + 1) a0) := by
 intro a0 k
 obtain ⟨ih0, ih1⟩ := spec_ImageOk.mono_l k
 unfold spec_ImageOk.f
 repeat' first
   | (with_reducible exact ih0 _ _)
   | (with_reducible exact ih1 _ _ _)
   | (with_reducible exact LeO.refl _)
   | (with_reducible exact LeO.none _)
   | (with_reducible refine LeO.ite ?_ ?_)
   | (with_reducible refine LeO.bind ?_ (fun _ => ?_))
   | exact ih0 _ _
   | exact ih1 _ _ _
   | exact LeO.none _
   | refine LeO.ite ?_ ?_
   | refine LeO.bind ?_ (fun _ => ?_)
set_option maxHeartbeats 8000000 in
set_option maxRecDepth 100000 in
theorem spec_ImageOk.calls (k : Nat) (A0_0 : Option Addr) (c0_0 : Nat) (l0_0 : List (List Int)) (r : Bool) (w : World) (hr0_0 : Kd.C (Kd.slice 3 (Kd.int .i64)) w A0_0 l0_0.length l0_0) (hc0_0 : l0_0.length ≤ c0_0) (h : spec_ImageOk.f k l0_0 = some r) :
  Calls Try.prog 20 #[.agg #[.slice A0_0 l0_0.length c0_0]] w fun e w' => e = .returned (.bool r) ∧ Below w.heap.size w w' := by
 have hu29 := Try.underlying29
 have HR0_0 := Aside0.mk hr0_0
 have HC0_0 := Aside0.mk hc0_0
 clear hr0_0 hc0_0
 have HB := Aside0.mk (Below.refl w.heap.size w)
 have H : (spec_ImageOk.l0 k 0 l0_0) = some r := h
 clear h
 have H' := Aside0.mk H
 clear H
 go_enter Try.func20, Try.ntmps20
 go_wp2_with (first | ((with_reducible refine gate_dst (N := 1) rfl ?_); refine bx (N := 1) (cs := #[.slice A0_0 l0_0.length c0_0]) (t := 29) ?_; intro gb448 hg w2 hbox hb; have n0_ := Aside0.mk (below_step (bw HB.out) hb); have n1_ := Aside0.mk (hbox); have n2_ := Aside0.mk ((gs hg (bw HB.out))); have n3_ := Aside0.mk ((gs hg (bw HB.out))); clear HB; have HB := n0_; have BK448 := n1_; have GW448 := n2_; have GE448 := n3_; clear n0_ n1_ n2_ n3_; clear hb hbox hg))
 go_loopg [3] k (fun kq v3 w' => ∃ (x3_1 : Int), v3 = .int .i64 x3_1 ∧ Aside0 (spec_ImageOk.l0 kq x3_1 l0_0 = some r) ∧ Aside0 (kq ≤ k) ∧ Aside0 (w'.heap[gb448]? = some (.cells #[(.slice A0_0 l0_0.length c0_0)] 29 (0, 0))) ∧ Aside0 (Below w.heap.size w w'))
 case atStart => exact ⟨(0), (by first | rfl | (simp; done) | (simp [*]; done)), H', ⟨Nat.le_refl _⟩, ⟨kb BK448.out⟩, ⟨bw HB.out⟩⟩
 case round =>
  clear H'
  (try clear c2); (try clear p2)
  obtain ⟨x3_1, rfl, HA, HK1, BK448, HB⟩ := hrel
  cases gk with
  | zero => exact absurd HA.out (by simp [spec_ImageOk.l0])
  | succ k1 =>
   have H := HA.out
   clear HA
   simp only [spec_ImageOk.l0] at H
   by_cases c3 : x3_1 < (l0_0.length : Int)
   ·rw [if_pos c3] at H
    have c3b0 : decide (x3_1 < (l0_0.length : Int)) = true := decide_eq_true c3
    clear c3
    by_cases c4 : 0 ≤ x3_1
    ·rw [if_pos c4] at H
     have c4b0 : decide (0 ≤ x3_1) = true := decide_eq_true c4
     clear c4
     by_cases c5 : ((rd_L2 l0_0 x3_1).length : Int) = 256
     ·rw [if_pos c5] at H
      have c5b0 : (((rd_L2 l0_0 x3_1).length : Int) == 256) = true := beq_iff_eq.mpr c5
      have c5b1 : (((rd_L2 l0_0 x3_1).length : Int) != 256) = false := bne_eq_false_iff_eq.mpr c5
      clear c5
      have H' := Aside0.mk H
      clear H
      have hcz6_0 : wr.cell? ⟨gb448, 0, none⟩ = some (.slice A0_0 l0_0.length c0_0) := (blk_cell BK448.out 0).trans rfl
      have hfz6_0 := blk_frozen BK448.out 0
      have p450 : 0 ≤ (x3_1 : Int) := dt
      have q450 : x3_1 < (l0_0.length : Int) := dt
      obtain ⟨ad450, A450_0, c450_0, e450, hx450_0, hl450_0, hi450_0⟩ := at_L2 HR0_0.out x3_1 p450 q450
      cases e450
      replace hx450_0 := (HB.out.cell (World.block_lt_of_cell? w _ hx450_0)).trans hx450_0
      have HR450_0 := Aside0.mk hi450_0
      have HC450_0 := Aside0.mk hl450_0
      clear hi450_0 hl450_0
      replace p450 := eq_true p450
      replace q450 := eq_true q450
      go_wp2
      go_loopg [4] k1 (fun kq v4 w' => ∃ (x4_2 : Int), v4 = .int .i64 x4_2 ∧ Aside0 (spec_ImageOk.l1 kq x3_1 x4_2 l0_0 = some r) ∧ Aside0 (kq ≤ k1) ∧ Aside0 (w'.heap[gb448]? = some (.cells #[(.slice (some ad450) l0_0.length c0_0)] 29 (0, 0))) ∧ Aside0 (Below w.heap.size w w'))
      case atStart => exact ⟨(0), (by first | rfl | (simp; done) | (simp [*]; done)), H', ⟨Nat.le_refl _⟩, ⟨kb BK448.out⟩, ⟨bw HB.out⟩⟩
      case round =>
       clear H'
       (try clear c2); (try clear p2); (try clear c3); (try clear c3b0); (try clear c4); (try clear c4b0); (try clear p4); (try clear q4); (try clear hx4); (try clear c5); (try clear c5b0); (try clear c5b1); (try clear hcz6_0); (try clear hfz6_0); (try clear hx450_0); (try clear p2); (try clear p450); (try clear q450)
       obtain ⟨x4_2, rfl, HA, HK2, BK448, HB⟩ := hrel
       cases gk with
       | zero => exact absurd HA.out (by simp [spec_ImageOk.l1])
       | succ k2 =>
        have H := HA.out
        clear HA
        simp only [spec_ImageOk.l1] at H
        by_cases c7 : x4_2 < 256
        ·rw [if_pos c7] at H
         have c7b0 : decide (x4_2 < 256) = true := decide_eq_true c7
         clear c7
         by_cases c8 : 0 ≤ x3_1
         ·rw [if_pos c8] at H
          have c8b0 : decide (0 ≤ x3_1) = true := decide_eq_true c8
          clear c8
          by_cases c9 : x3_1 < (l0_0.length : Int)
          ·rw [if_pos c9] at H
           have c9b0 : decide (x3_1 < (l0_0.length : Int)) = true := decide_eq_true c9
           clear c9
           by_cases c10 : 0 ≤ x4_2
           ·rw [if_pos c10] at H
            have c10b0 : decide (0 ≤ x4_2) = true := decide_eq_true c10
            clear c10
            by_cases c11 : x4_2 < ((rd_L2 l0_0 x3_1).length : Int)
            ·rw [if_pos c11] at H
             have c11b0 : decide (x4_2 < ((rd_L2 l0_0 x3_1).length : Int)) = true := decide_eq_true c11
             clear c11
             replace H := Option.bind_eq_some_iff.mp H
             obtain ⟨t453, A120, H⟩ := H
             replace H : (if t453 = true then (spec_ImageOk.l1 k2 x3_1 (wrap64 (x4_2 + 1)) l0_0) else (some false)) = some r := H
             have A12 := Aside0.mk A120
             clear A120
             by_cases c13 : t453 = true
             ·subst c13
              have H1 : (spec_ImageOk.l1 k2 x3_1 (wrap64 (x4_2 + 1)) l0_0) = some r := by rw [if_pos rfl] at H; exact H
              clear H
              have H := H1
              clear H1
              have H' := Aside0.mk H
              clear H
              have hcz14_0 : wr.cell? ⟨gb448, 0, none⟩ = some (.slice (some ad450) l0_0.length c0_0) := (blk_cell BK448.out 0).trans rfl
              have hfz14_0 := blk_frozen BK448.out 0
              have p451 : 0 ≤ (x3_1 : Int) := dt
              have q451 : x3_1 < (l0_0.length : Int) := dt
              obtain ⟨ad451, A451_0, c451_0, e451, hx451_0, hl451_0, hi451_0⟩ := at_L2 HR0_0.out x3_1 p451 q451
              obtain rfl : ad450 = ad451 := (by injection e451)
              replace hx451_0 := (HB.out.cell (World.block_lt_of_cell? w _ hx451_0)).trans hx451_0
              have HR451_0 := Aside0.mk hi451_0
              have HC451_0 := Aside0.mk hl451_0
              clear hi451_0 hl451_0
              replace p451 := eq_true p451
              replace q451 := eq_true q451
              have p452 : 0 ≤ (x4_2 : Int) := dt
              have q452 : x4_2 < ((rd_L2 l0_0 x3_1).length : Int) := dt
              obtain ⟨ad452, e452, hx452_0⟩ := Kd.at_int HR451_0.out x4_2 p452 q452
              cases e452
              replace hx452_0 := (HB.out.cell (World.block_lt_of_cell? w _ hx452_0)).trans hx452_0
              replace p452 := eq_true p452
              replace q452 := eq_true q452
              go_wp2_with (first | ((with_reducible refine gate_callee (f := 68) rfl ?_); refine goesM_ (some 31) rfl rfl Try.func68 #[.int .i64 (rd (rd_L2 l0_0 x3_1) x4_2), .int .i64 0, .int .i64 255] ?_; (with_reducible refine (spec_l1In.calls (rd (rd_L2 l0_0 x3_1) x4_2) 0 255 true _ A12.out).mono ?_); rintro e w' ⟨rfl, ⟨nd, rfl⟩⟩; refine ⟨_, rfl, ?_⟩))
              go_roundg k2
              case measure => have := HK1.out; have := HK2.out; omega
              case rel => exact ⟨(wrap64 (x4_2 + 1)), (by first | rfl | (simp; done) | (simp [*]; done)), H', ⟨by have := HK1.out; have := HK2.out; omega⟩, ⟨kb BK448.out⟩, ⟨bw HB.out⟩⟩
             ·replace c13 := Bool.eq_false_iff.mpr c13
              subst c13
              have H1 : (some false) = some r := by rw [if_neg (show ¬ (false = true) by decide)] at H; exact H
              clear H
              have H := H1
              clear H1
              obtain rfl := Option.some.inj H
              have hcz15_0 : wr.cell? ⟨gb448, 0, none⟩ = some (.slice (some ad450) l0_0.length c0_0) := (blk_cell BK448.out 0).trans rfl
              have hfz15_0 := blk_frozen BK448.out 0
              have p451 : 0 ≤ (x3_1 : Int) := dt
              have q451 : x3_1 < (l0_0.length : Int) := dt
              obtain ⟨ad451, A451_0, c451_0, e451, hx451_0, hl451_0, hi451_0⟩ := at_L2 HR0_0.out x3_1 p451 q451
              obtain rfl : ad450 = ad451 := (by injection e451)
              replace hx451_0 := (HB.out.cell (World.block_lt_of_cell? w _ hx451_0)).trans hx451_0
              have HR451_0 := Aside0.mk hi451_0
              have HC451_0 := Aside0.mk hl451_0
              clear hi451_0 hl451_0
              replace p451 := eq_true p451
              replace q451 := eq_true q451
              have p452 : 0 ≤ (x4_2 : Int) := dt
              have q452 : x4_2 < ((rd_L2 l0_0 x3_1).length : Int) := dt
              obtain ⟨ad452, e452, hx452_0⟩ := Kd.at_int HR451_0.out x4_2 p452 q452
              cases e452
              replace hx452_0 := (HB.out.cell (World.block_lt_of_cell? w _ hx452_0)).trans hx452_0
              replace p452 := eq_true p452
              replace q452 := eq_true q452
              go_wp2_with (first | ((with_reducible refine gate_callee (f := 68) rfl ?_); refine goesM_ (some 31) rfl rfl Try.func68 #[.int .i64 (rd (rd_L2 l0_0 x3_1) x4_2), .int .i64 0, .int .i64 255] ?_; (with_reducible refine (spec_l1In.calls (rd (rd_L2 l0_0 x3_1) x4_2) 0 255 false _ A12.out).mono ?_); rintro e w' ⟨rfl, ⟨nd, rfl⟩⟩; refine ⟨_, rfl, ?_⟩))
              go_ret
              exact ⟨rt, bw HB.out⟩
            ·rw [if_neg c11] at H
             exact absurd H (by simp)
           ·rw [if_neg c10] at H
            exact absurd H (by simp)
          ·rw [if_neg c9] at H
           exact absurd H (by simp)
         ·rw [if_neg c8] at H
          exact absurd H (by simp)
        ·rw [if_neg c7] at H
         have c7b0 : decide (x4_2 < 256) = false := decide_eq_false c7
         clear c7
         have H' := Aside0.mk H
         clear H
         go_wp2
         go_roundg k2
         case measure => have := HK1.out; have := HK2.out; omega
         case rel => exact ⟨(wrap64 (x3_1 + 1)), (by first | rfl | (simp; done) | (simp [*]; done)), H', ⟨by have := HK1.out; have := HK2.out; omega⟩, ⟨kb BK448.out⟩, ⟨bw HB.out⟩⟩
     ·rw [if_neg c5] at H
      have c5b0 : (((rd_L2 l0_0 x3_1).length : Int) == 256) = false := beq_eq_false_iff_ne.mpr c5
      have c5b1 : (((rd_L2 l0_0 x3_1).length : Int) != 256) = true := bne_iff_ne.mpr c5
      obtain rfl := Option.some.inj H
      have hcz16_0 : wr.cell? ⟨gb448, 0, none⟩ = some (.slice A0_0 l0_0.length c0_0) := (blk_cell BK448.out 0).trans rfl
      have hfz16_0 := blk_frozen BK448.out 0
      have p450 : 0 ≤ (x3_1 : Int) := dt
      have q450 : x3_1 < (l0_0.length : Int) := dt
      obtain ⟨ad450, A450_0, c450_0, e450, hx450_0, hl450_0, hi450_0⟩ := at_L2 HR0_0.out x3_1 p450 q450
      cases e450
      replace hx450_0 := (HB.out.cell (World.block_lt_of_cell? w _ hx450_0)).trans hx450_0
      have HR450_0 := Aside0.mk hi450_0
      have HC450_0 := Aside0.mk hl450_0
      clear hi450_0 hl450_0
      replace p450 := eq_true p450
      replace q450 := eq_true q450
      go_wp2
      go_ret
      exact ⟨rt, bw HB.out⟩
    ·rw [if_neg c4] at H
     exact absurd H (by simp)
   ·rw [if_neg c3] at H
    have c3b0 : decide (x3_1 < (l0_0.length : Int)) = false := decide_eq_false c3
    clear c3
    replace H := Option.bind_eq_some_iff.mp H
    obtain ⟨t449, A170, H⟩ := H
    replace H : (some t449) = some r := H
    have A17 := Aside0.mk A170
    clear A170
    obtain rfl := Option.some.inj H
    have hcz18_0 : wr.cell? ⟨gb448, 0, none⟩ = some (.slice A0_0 l0_0.length c0_0) := (blk_cell BK448.out 0).trans rfl
    have hfz18_0 := blk_frozen BK448.out 0
    go_wp2_with (first | ((with_reducible refine gate_callee (f := 68) rfl ?_); refine goesM_ (some 36) rfl rfl Try.func68 #[.int .i64 (l0_0.length : Int), .int .i64 1, .int .i64 8] ?_; (with_reducible refine (spec_l1In.calls (l0_0.length : Int) 1 8 t449 _ A17.out).mono ?_); rintro e w' ⟨rfl, ⟨nd, rfl⟩⟩; refine ⟨_, rfl, ?_⟩))
    go_ret
    exact ⟨rt, bw HB.out⟩

/-! ### spec_l5Byte: function 79 -/
def spec_l5Byte.f (a0 : Int) : Option (Bool) := (spec_l1In.f a0 0 255).bind fun t454 => (some t454)
set_option maxHeartbeats 8000000 in
set_option maxRecDepth 100000 in
theorem spec_l5Byte.calls (a0 : Int) (r : Bool) (w : World) (h : spec_l5Byte.f a0 = some r) :
  Calls Try.prog 79 #[.int .i64 a0] w fun e w' => e = .returned (.bool r) ∧ Drawn0 w w' := by
 have H : ((spec_l1In.f a0 0 255).bind fun t454 => (some t454)) = some r := h
 clear h
 replace H := Option.bind_eq_some_iff.mp H
 obtain ⟨t454, A20, H⟩ := H
 replace H : (some t454) = some r := H
 have A2 := Aside0.mk A20
 clear A20
 obtain rfl := Option.some.inj H
 go_enter Try.func79, Try.ntmps79
 go_wp2_with (first | ((with_reducible refine gate_callee (f := 68) rfl ?_); refine goesM_ (some 4) rfl rfl Try.func68 #[.int .i64 a0, .int .i64 0, .int .i64 255] ?_; (with_reducible refine (spec_l1In.calls a0 0 255 t454 _ A2.out).mono ?_); rintro e w' ⟨rfl, ⟨nd, rfl⟩⟩; refine ⟨_, rfl, ?_⟩))
 go_ret
 exact ⟨by first | rfl | (simp; done) | (simp [*]; done), by repeat (first | exact Drawn0.refl _ | apply Drawn0.step)⟩

/-! ### spec_MemOk: function 33 -/
mutual
def spec_MemOk.j0 : Nat → Bool → List Int → Int → Option (Bool)
 | 0, _, _, _ => none
 | k + 1, x24, x457000, x457001 => if x24 = true then (some false) else (spec_MemOk.l0 k 0 x457000 x457001)
def spec_MemOk.l0 : Nat → Int → List Int → Int → Option (Bool)
 | 0, _, _, _ => none
 | k + 1, x5, x457000, x457001 => if x5 < 512 then (if 0 ≤ x5 then (if x5 < (x457000.length : Int) then ((spec_l5Byte.f (rd x457000 x5)).bind fun t460 => (if t460 = true then (spec_MemOk.l0 k (wrap64 (x5 + 1)) x457000 x457001) else (some false))) else (none)) else (none)) else (some true)
end
def spec_MemOk.f (k : Nat) (l0_0 : List (List Int)) (l1_0 : List Int) (a1_1 : Int) : Option (Bool) := (spec_ImageOk.f k l0_0).bind fun t457 => (if t457 = true then (if (l1_0.length : Int) = 512 then ((spec_l1In.f a1_1 0 (wrap64 ((l0_0.length : Int) - 1))).bind fun t458 => (spec_MemOk.j0 k (!t458) l1_0 a1_1)) else (spec_MemOk.j0 k true l1_0 a1_1)) else (spec_MemOk.j0 k true l1_0 a1_1))
theorem spec_MemOk.mono_l : ∀ k, (∀ y0 y1 y2, LeO (spec_MemOk.j0 k y0 y1 y2) (spec_MemOk.j0 (k + 1) y0 y1 y2)) ∧ (∀ y0 y1 y2, LeO (spec_MemOk.l0 k y0 y1 y2) (spec_MemOk.l0 (k + 1) y0 y1 y2))
 | 0 => ⟨fun _ _ _ r h => by simp [spec_MemOk.j0] at h, fun _ _ _ r h => by simp [spec_MemOk.l0] at h⟩
 | k + 1 => by
  obtain ⟨ih0, ih1⟩ := spec_MemOk.mono_l k
  refine ⟨?_, ?_⟩
  ·intro y0 y1 y2
   unfold spec_MemOk.j0
   repeat' first
   | (with_reducible exact ih0 _ _ _)
   | (with_reducible exact ih1 _ _ _)
   | (with_reducible exact spec_ImageOk.mono _ _)
   | (with_reducible exact LeO.refl _)
   | (with_reducible exact LeO.none _)
   | (with_reducible refine LeO.ite ?_ ?_)
   | (with_reducible refine LeO.bind ?_ (fun _ => ?_))
   | exact ih0 _ _ _
   | exact ih1 _ _ _
   | exact spec_ImageOk.mono _ _
   | exact LeO.none _
   | refine LeO.ite ?_ ?_
   | refine LeO.bind ?_ (fun _ => ?_)
  ·intro y0 y1 y2
   unfold spec_MemOk.l0
   repeat' first
   | (with_reducible exact ih0 _ _ _)
   | (with_reducible exact ih1 _ _ _)
   | (with_reducible exact spec_ImageOk.mono _ _)
   | (with_reducible exact LeO.refl _)
   | (with_reducible exact LeO.none _)
   | (with_reducible refine LeO.ite ?_ ?_)
   | (with_reducible refine LeO.bind ?_ (fun _ => ?_))
   | exact ih0 _ _ _
   | exact ih1 _ _ _
   | exact spec_ImageOk.mono _ _
   | exact LeO.none _
   | refine LeO.ite ?_ ?_
   | refine LeO.bind ?_ (fun _ => ?_)
theorem spec_MemOk.mono : ∀ a0 a1 a2 k, LeO (spec_MemOk.f k a0 a1 a2) (spec_MemOk.f (k + 1) a0 a1 a2) := by
 intro a0 a1 a2 k
 obtain ⟨ih0, ih1⟩ := spec_MemOk.mono_l k
 unfold spec_MemOk.f
 repeat' first
   | (with_reducible exact ih0 _ _ _)
   | (with_reducible exact ih1 _ _ _)
   | (with_reducible exact spec_ImageOk.mono _ _)
   | (with_reducible exact LeO.refl _)
   | (with_reducible exact LeO.none _)
   | (with_reducible refine LeO.ite ?_ ?_)
   | (with_reducible refine LeO.bind ?_ (fun _ => ?_))
   | exact ih0 _ _ _
   | exact ih1 _ _ _
   | exact spec_ImageOk.mono _ _
   | exact LeO.none _
   | refine LeO.ite ?_ ?_
   | refine LeO.bind ?_ (fun _ => ?_)
set_option maxHeartbeats 8000000 in
set_option maxRecDepth 100000 in
theorem spec_MemOk.calls (k : Nat) (A0_0 : Option Addr) (c0_0 : Nat) (l0_0 : List (List Int)) (A1_0 : Option Addr) (c1_0 : Nat) (l1_0 : List Int) (a1_1 : Int) (r : Bool) (w : World) (hr0_0 : Kd.C (Kd.slice 3 (Kd.int .i64)) w A0_0 l0_0.length l0_0) (hc0_0 : l0_0.length ≤ c0_0) (hr1_0 : Kd.C (Kd.int .i64) w A1_0 l1_0.length l1_0) (hc1_0 : l1_0.length ≤ c1_0) (h : spec_MemOk.f k l0_0 l1_0 a1_1 = some r) :
  Calls Try.prog 33 #[.agg #[.slice A0_0 l0_0.length c0_0], .agg #[.slice A1_0 l1_0.length c1_0, .int .i64 a1_1]] w fun e w' => e = .returned (.bool r) ∧ Below w.heap.size w w' := by
 have hu29 := Try.underlying29
 have hu32 := Try.underlying32
 have HR0_0 := Aside0.mk hr0_0
 have HC0_0 := Aside0.mk hc0_0
 clear hr0_0 hc0_0
 have HR1_0 := Aside0.mk hr1_0
 have HC1_0 := Aside0.mk hc1_0
 clear hr1_0 hc1_0
 have HB := Aside0.mk (Below.refl w.heap.size w)
 have H : ((spec_ImageOk.f k l0_0).bind fun t457 => (if t457 = true then (if (l1_0.length : Int) = 512 then ((spec_l1In.f a1_1 0 (wrap64 ((l0_0.length : Int) - 1))).bind fun t458 => (spec_MemOk.j0 k (!t458) l1_0 a1_1)) else (spec_MemOk.j0 k true l1_0 a1_1)) else (spec_MemOk.j0 k true l1_0 a1_1))) = some r := h
 clear h
 have HC3 := Aside0.mk H
 clear H
 go_enter Try.func33, Try.ntmps33
 go_upto_region 1 with (first | ((with_reducible refine gate_dst (N := 2) rfl ?_); (try (refine gate_guard (by rfl) ?_; dsimp only)); refine bx (N := 2) (cs := #[.slice A0_0 l0_0.length c0_0]) (t := 29) ?_; intro gb455 hg w4 hbox hb; have n0_ := Aside0.mk (below_step (bw HB.out) hb); have n1_ := Aside0.mk (hbox); have n2_ := Aside0.mk ((gs hg (bw HB.out))); have n3_ := Aside0.mk ((gs hg (bw HB.out))); clear HB; have HB := n0_; have BK455 := n1_; have GW455 := n2_; have GE455 := n3_; clear n0_ n1_ n2_ n3_; clear hb hbox hg) | ((with_reducible refine gate_dst (N := 3) rfl ?_); (try (refine gate_guard (by rfl) ?_; dsimp only)); refine bx (N := 3) (cs := #[.slice A1_0 l1_0.length c1_0, .int .i64 a1_1]) (t := 32) ?_; intro gb456 hg w5 hbox hb; have n0_ := Aside0.mk (blk_below (g := gb455) (o := .cells #[.slice A0_0 l0_0.length c0_0] 29 (0, 0)) (kb BK455.out) hb); have n1_ := Aside0.mk (below_step (bw HB.out) hb); have n2_ := Aside0.mk (hbox); have n3_ := Aside0.mk ((gs hg (bw HB.out))); have n4_ := Aside0.mk ((gs hg (bw HB.out))); have n5_ := Aside0.mk ((ga hg BK455.out)); have n6_ := Aside0.mk ((gc hg BK455.out)); clear BK455; clear HB; have BK455 := n0_; have HB := n1_; have BK456 := n2_; have GW456 := n3_; have GE456 := n4_; have NB455_456 := n5_; have NB456_455 := n6_; clear n0_ n1_ n2_ n3_ n4_ n5_ n6_; clear hb hbox hg))
 (try simp only [Act.put, List.setIfInBounds_toArray, List.set_cons_zero, List.set_cons_succ])
 go_cut [24] (fun v24 wc => ∃ (kq : Nat) (x24_2 : Bool), v24 = .bool x24_2 ∧ Aside0 (spec_MemOk.j0 kq x24_2 l1_0 a1_1 = some r) ∧ Aside0 (kq ≤ k) ∧ Aside0 (wc.heap[gb455]? = some (.cells #[(.slice A0_0 l0_0.length c0_0)] 29 (0, 0))) ∧ Aside0 (wc.heap[gb456]? = some (.cells #[(.slice A1_0 l1_0.length c1_0), .int .i64 a1_1] 32 (0, 0))) ∧ Aside0 (Below w.heap.size w wc))
 case first =>
  have H := HC3.out
  clear HC3
  replace H := Option.bind_eq_some_iff.mp H
  obtain ⟨t457, A60, H⟩ := H
  replace H : (if t457 = true then (if (l1_0.length : Int) = 512 then ((spec_l1In.f a1_1 0 (wrap64 ((l0_0.length : Int) - 1))).bind fun t458 => (spec_MemOk.j0 k (!t458) l1_0 a1_1)) else (spec_MemOk.j0 k true l1_0 a1_1)) else (spec_MemOk.j0 k true l1_0 a1_1)) = some r := H
  have A6 := Aside0.mk A60
  clear A60
  by_cases c7 : t457 = true
  ·subst c7
   have H1 : (if (l1_0.length : Int) = 512 then ((spec_l1In.f a1_1 0 (wrap64 ((l0_0.length : Int) - 1))).bind fun t458 => (spec_MemOk.j0 k (!t458) l1_0 a1_1)) else (spec_MemOk.j0 k true l1_0 a1_1)) = some r := by rw [if_pos rfl] at H; exact H
   clear H
   have H := H1
   clear H1
   by_cases c8 : (l1_0.length : Int) = 512
   ·rw [if_pos c8] at H
    have c8b0 : ((l1_0.length : Int) == 512) = true := beq_iff_eq.mpr c8
    have c8b1 : ((l1_0.length : Int) != 512) = false := bne_eq_false_iff_eq.mpr c8
    clear c8
    (first | rw [c8b0] | (simp only [i64_w, i32_w]; rw [c8b0]) | skip)
    replace H := Option.bind_eq_some_iff.mp H
    obtain ⟨t458, A90, H⟩ := H
    replace H : (spec_MemOk.j0 k (!t458) l1_0 a1_1) = some r := H
    have A9 := Aside0.mk A90
    clear A90
    have H' := Aside0.mk H
    clear H
    have hnb10 := NB455_456.out
    have hnc10 := NB456_455.out
    have hcz11_0 : w5.cell? ⟨gb455, 0, none⟩ = some (.slice A0_0 l0_0.length c0_0) := (blk_cell BK455.out 0).trans rfl
    have hfz11_0 := blk_frozen BK455.out 0
    go_wp2_with (first | ((with_reducible refine gate_callee (f := 20) rfl ?_); refine goesM_ (some 7) rfl rfl Try.func20 #[.agg #[.slice A0_0 l0_0.length c0_0]] ?_; (with_reducible refine (spec_ImageOk.calls k _ _ l0_0 true _ ?side1 ?side2 A6.out).mono ?_); (case side1 => exact kc (Kd.C_below HR0_0.out HB.out)); (case side2 => exact HC0_0.out); rintro e w12 ⟨rfl, hb⟩; refine ⟨_, rfl, ?_⟩; have n0_ := Aside0.mk (blk_below (g := gb455) (o := .cells #[.slice A0_0 l0_0.length c0_0] 29 (0, 0)) (kb BK455.out) hb); have n1_ := Aside0.mk (blk_below (g := gb456) (o := .cells #[.slice A1_0 l1_0.length c1_0, .int .i64 a1_1] 32 (0, 0)) (kb BK456.out) hb); have n2_ := Aside0.mk (below_step (bw HB.out) hb); clear BK455; clear BK456; clear HB; have BK455 := n0_; have BK456 := n1_; have HB := n2_; clear n0_ n1_ n2_; (try clear hb); (try clear hb2); (try clear hk); (try clear hi); have hcz13_0 : w12.cell? ⟨gb456, 0, none⟩ = some (.slice A1_0 l1_0.length c1_0) := (blk_cell BK456.out 0).trans rfl; have hcz13_1 : w12.cell? ⟨gb456, 1, none⟩ = some (.int .i64 a1_1) := (blk_cell BK456.out 1).trans rfl; have hfz13_0 := blk_frozen BK456.out 0; have hfz13_1 := blk_frozen BK456.out 1; have hcz14_0 : w12.cell? ⟨gb455, 0, none⟩ = some (.slice A0_0 l0_0.length c0_0) := (blk_cell BK455.out 0).trans rfl; have hfz14_0 := blk_frozen BK455.out 0) | (go_at_call 68; (with_reducible refine (spec_l1In.calls a1_1 0 (wrap64 ((l0_0.length : Int) - 1)) t458 _ A9.out).mono ?_); rintro e w' ⟨rfl, ⟨nd, rfl⟩⟩))
    go_meet
    case rel => exact ⟨_, (!t458), (by first | rfl | (simp; done) | (simp [*]; done)), H', ⟨by first | omega | exact Nat.le_refl _⟩, ⟨kb BK455.out⟩, ⟨kb BK456.out⟩, ⟨bw HB.out⟩⟩
   ·rw [if_neg c8] at H
    have c8b0 : ((l1_0.length : Int) == 512) = false := beq_eq_false_iff_ne.mpr c8
    have c8b1 : ((l1_0.length : Int) != 512) = true := bne_iff_ne.mpr c8
    (first | rw [c8b0] | (simp only [i64_w, i32_w]; rw [c8b0]) | skip)
    have H' := Aside0.mk H
    clear H
    have hnb15 := NB455_456.out
    have hnc15 := NB456_455.out
    have hcz16_0 : w5.cell? ⟨gb455, 0, none⟩ = some (.slice A0_0 l0_0.length c0_0) := (blk_cell BK455.out 0).trans rfl
    have hfz16_0 := blk_frozen BK455.out 0
    go_wp2_with (first | ((with_reducible refine gate_callee (f := 20) rfl ?_); refine goesM_ (some 7) rfl rfl Try.func20 #[.agg #[.slice A0_0 l0_0.length c0_0]] ?_; (with_reducible refine (spec_ImageOk.calls k _ _ l0_0 true _ ?side1 ?side2 A6.out).mono ?_); (case side1 => exact kc (Kd.C_below HR0_0.out HB.out)); (case side2 => exact HC0_0.out); rintro e w17 ⟨rfl, hb⟩; refine ⟨_, rfl, ?_⟩; have n0_ := Aside0.mk (blk_below (g := gb455) (o := .cells #[.slice A0_0 l0_0.length c0_0] 29 (0, 0)) (kb BK455.out) hb); have n1_ := Aside0.mk (blk_below (g := gb456) (o := .cells #[.slice A1_0 l1_0.length c1_0, .int .i64 a1_1] 32 (0, 0)) (kb BK456.out) hb); have n2_ := Aside0.mk (below_step (bw HB.out) hb); clear BK455; clear BK456; clear HB; have BK455 := n0_; have BK456 := n1_; have HB := n2_; clear n0_ n1_ n2_; (try clear hb); (try clear hb2); (try clear hk); (try clear hi); have hcz18_0 : w17.cell? ⟨gb456, 0, none⟩ = some (.slice A1_0 l1_0.length c1_0) := (blk_cell BK456.out 0).trans rfl; have hcz18_1 : w17.cell? ⟨gb456, 1, none⟩ = some (.int .i64 a1_1) := (blk_cell BK456.out 1).trans rfl; have hfz18_0 := blk_frozen BK456.out 0; have hfz18_1 := blk_frozen BK456.out 1))
    go_meet
    case rel => exact ⟨_, (true), (by first | rfl | (simp; done) | (simp [*]; done)), H', ⟨by first | omega | exact Nat.le_refl _⟩, ⟨kb BK455.out⟩, ⟨kb BK456.out⟩, ⟨bw HB.out⟩⟩
  ·replace c7 := Bool.eq_false_iff.mpr c7
   subst c7
   have H1 : (spec_MemOk.j0 k true l1_0 a1_1) = some r := by rw [if_neg (show ¬ (false = true) by decide)] at H; exact H
   clear H
   have H := H1
   clear H1
   have H' := Aside0.mk H
   clear H
   have hnb19 := NB455_456.out
   have hnc19 := NB456_455.out
   have hcz20_0 : w5.cell? ⟨gb455, 0, none⟩ = some (.slice A0_0 l0_0.length c0_0) := (blk_cell BK455.out 0).trans rfl
   have hfz20_0 := blk_frozen BK455.out 0
   go_wp2_with (first | ((with_reducible refine gate_callee (f := 20) rfl ?_); refine goesM_ (some 7) rfl rfl Try.func20 #[.agg #[.slice A0_0 l0_0.length c0_0]] ?_; (with_reducible refine (spec_ImageOk.calls k _ _ l0_0 false _ ?side1 ?side2 A6.out).mono ?_); (case side1 => exact kc (Kd.C_below HR0_0.out HB.out)); (case side2 => exact HC0_0.out); rintro e w21 ⟨rfl, hb⟩; refine ⟨_, rfl, ?_⟩; have n0_ := Aside0.mk (blk_below (g := gb455) (o := .cells #[.slice A0_0 l0_0.length c0_0] 29 (0, 0)) (kb BK455.out) hb); have n1_ := Aside0.mk (blk_below (g := gb456) (o := .cells #[.slice A1_0 l1_0.length c1_0, .int .i64 a1_1] 32 (0, 0)) (kb BK456.out) hb); have n2_ := Aside0.mk (below_step (bw HB.out) hb); clear BK455; clear BK456; clear HB; have BK455 := n0_; have BK456 := n1_; have HB := n2_; clear n0_ n1_ n2_; (try clear hb); (try clear hb2); (try clear hk); (try clear hi)))
   go_meet
   case rel => exact ⟨_, (true), (by first | rfl | (simp; done) | (simp [*]; done)), H', ⟨by first | omega | exact Nat.le_refl _⟩, ⟨kb BK455.out⟩, ⟨kb BK456.out⟩, ⟨bw HB.out⟩⟩
 case rest =>
  clear HC3; (try clear c1); (try clear c2); (try clear p2); (try clear c3); (try clear p6); (try clear c7); (try clear c8); (try clear c8b0); (try clear c8b1); (try clear c10); (try clear c15); (try clear c19); (try clear c20); (try clear hcz11_0); (try clear hcz13_0); (try clear hcz13_1); (try clear hcz14_0); (try clear hcz16_0); (try clear hcz18_0); (try clear hcz18_1); (try clear hcz20_0); (try clear hfz11_0); (try clear hfz13_0); (try clear hfz13_1); (try clear hfz14_0); (try clear hfz16_0); (try clear hfz18_0); (try clear hfz18_1); (try clear hfz20_0)
  obtain ⟨kq, x24_2, rfl, HA, HJ2, BK455, BK456, HB⟩ := hcut
  cases kq with
  | zero => exact absurd HA.out (by simp [spec_MemOk.j0])
  | succ kj2 =>
   have H := HA.out
   clear HA
   simp only [spec_MemOk.j0] at H
   by_cases c22 : x24_2 = true
   ·subst c22
    have H1 : (some false) = some r := by rw [if_pos rfl] at H; exact H
    clear H
    have H := H1
    clear H1
    obtain rfl := Option.some.inj H
    go_wp2
    go_ret
    exact ⟨rt, bw HB.out⟩
   ·replace c22 := Bool.eq_false_iff.mpr c22
    subst c22
    have H1 : (spec_MemOk.l0 kj2 0 l1_0 a1_1) = some r := by rw [if_neg (show ¬ (false = true) by decide)] at H; exact H
    clear H
    have H := H1
    clear H1
    have H' := Aside0.mk H
    clear H
    go_wp2
    go_loopg [5] kj2 (fun kq v5 w' => ∃ (x5_2 : Int), v5 = .int .i64 x5_2 ∧ Aside0 (spec_MemOk.l0 kq x5_2 l1_0 a1_1 = some r) ∧ Aside0 (kq ≤ kj2) ∧ Aside0 (w'.heap[gb455]? = some (.cells #[(.slice A0_0 l0_0.length c0_0)] 29 (0, 0))) ∧ Aside0 (w'.heap[gb456]? = some (.cells #[(.slice A1_0 l1_0.length c1_0), .int .i64 a1_1] 32 (0, 0))) ∧ Aside0 (Below w.heap.size w w'))
    case atStart => exact ⟨(0), (by first | rfl | (simp; done) | (simp [*]; done)), H', ⟨Nat.le_refl _⟩, ⟨kb BK455.out⟩, ⟨kb BK456.out⟩, ⟨bw HB.out⟩⟩
    case round =>
     clear H'
     (try clear c1); (try clear c2); (try clear p2); (try clear c3); (try clear p6); (try clear c7); (try clear c8); (try clear c8b0); (try clear c8b1); (try clear c10); (try clear c15); (try clear c19); (try clear c20); (try clear c22); (try clear hcz11_0); (try clear hcz13_0); (try clear hcz13_1); (try clear hcz14_0); (try clear hcz16_0); (try clear hcz18_0); (try clear hcz18_1); (try clear hcz20_0); (try clear hfz11_0); (try clear hfz13_0); (try clear hfz13_1); (try clear hfz14_0); (try clear hfz16_0); (try clear hfz18_0); (try clear hfz18_1); (try clear hfz20_0); (try clear p2); (try clear p6)
     obtain ⟨x5_2, rfl, HA, HK2, BK455, BK456, HB⟩ := hrel
     cases gk with
     | zero => exact absurd HA.out (by simp [spec_MemOk.l0])
     | succ k2 =>
      have H := HA.out
      clear HA
      simp only [spec_MemOk.l0] at H
      by_cases c23 : x5_2 < 512
      ·rw [if_pos c23] at H
       have c23b0 : decide (x5_2 < 512) = true := decide_eq_true c23
       clear c23
       by_cases c24 : 0 ≤ x5_2
       ·rw [if_pos c24] at H
        have c24b0 : decide (0 ≤ x5_2) = true := decide_eq_true c24
        clear c24
        by_cases c25 : x5_2 < (l1_0.length : Int)
        ·rw [if_pos c25] at H
         have c25b0 : decide (x5_2 < (l1_0.length : Int)) = true := decide_eq_true c25
         clear c25
         replace H := Option.bind_eq_some_iff.mp H
         obtain ⟨t460, A260, H⟩ := H
         replace H : (if t460 = true then (spec_MemOk.l0 k2 (wrap64 (x5_2 + 1)) l1_0 a1_1) else (some false)) = some r := H
         have A26 := Aside0.mk A260
         clear A260
         by_cases c27 : t460 = true
         ·subst c27
          have H1 : (spec_MemOk.l0 k2 (wrap64 (x5_2 + 1)) l1_0 a1_1) = some r := by rw [if_pos rfl] at H; exact H
          clear H
          have H := H1
          clear H1
          have H' := Aside0.mk H
          clear H
          have hnb28 := NB456_455.out
          have hnc28 := NB455_456.out
          have hcz29_0 : wr.cell? ⟨gb456, 0, none⟩ = some (.slice A1_0 l1_0.length c1_0) := (blk_cell BK456.out 0).trans rfl
          have hcz29_1 : wr.cell? ⟨gb456, 1, none⟩ = some (.int .i64 a1_1) := (blk_cell BK456.out 1).trans rfl
          have hfz29_0 := blk_frozen BK456.out 0
          have hfz29_1 := blk_frozen BK456.out 1
          have p459 : 0 ≤ (x5_2 : Int) := dt
          have q459 : x5_2 < (l1_0.length : Int) := dt
          obtain ⟨ad459, e459, hx459_0⟩ := Kd.at_int HR1_0.out x5_2 p459 q459
          cases e459
          replace hx459_0 := (HB.out.cell (World.block_lt_of_cell? w _ hx459_0)).trans hx459_0
          replace p459 := eq_true p459
          replace q459 := eq_true q459
          go_wp2_with (first | ((with_reducible refine gate_callee (f := 79) rfl ?_); refine goesM_ (some 34) rfl rfl Try.func79 #[.int .i64 (rd l1_0 x5_2)] ?_; (with_reducible refine (spec_l5Byte.calls (rd l1_0 x5_2) true _ A26.out).mono ?_); rintro e w' ⟨rfl, ⟨nd, rfl⟩⟩; refine ⟨_, rfl, ?_⟩))
          go_roundg k2
          case measure => have := HJ2.out; have := HK2.out; omega
          case rel => exact ⟨(wrap64 (x5_2 + 1)), (by first | rfl | (simp; done) | (simp [*]; done)), H', ⟨by have := HJ2.out; have := HK2.out; omega⟩, ⟨kb BK455.out⟩, ⟨kb BK456.out⟩, ⟨bw HB.out⟩⟩
         ·replace c27 := Bool.eq_false_iff.mpr c27
          subst c27
          have H1 : (some false) = some r := by rw [if_neg (show ¬ (false = true) by decide)] at H; exact H
          clear H
          have H := H1
          clear H1
          obtain rfl := Option.some.inj H
          have hnb30 := NB456_455.out
          have hnc30 := NB455_456.out
          have hcz31_0 : wr.cell? ⟨gb456, 0, none⟩ = some (.slice A1_0 l1_0.length c1_0) := (blk_cell BK456.out 0).trans rfl
          have hcz31_1 : wr.cell? ⟨gb456, 1, none⟩ = some (.int .i64 a1_1) := (blk_cell BK456.out 1).trans rfl
          have hfz31_0 := blk_frozen BK456.out 0
          have hfz31_1 := blk_frozen BK456.out 1
          have p459 : 0 ≤ (x5_2 : Int) := dt
          have q459 : x5_2 < (l1_0.length : Int) := dt
          obtain ⟨ad459, e459, hx459_0⟩ := Kd.at_int HR1_0.out x5_2 p459 q459
          cases e459
          replace hx459_0 := (HB.out.cell (World.block_lt_of_cell? w _ hx459_0)).trans hx459_0
          replace p459 := eq_true p459
          replace q459 := eq_true q459
          go_wp2_with (first | ((with_reducible refine gate_callee (f := 79) rfl ?_); refine goesM_ (some 34) rfl rfl Try.func79 #[.int .i64 (rd l1_0 x5_2)] ?_; (with_reducible refine (spec_l5Byte.calls (rd l1_0 x5_2) false _ A26.out).mono ?_); rintro e w' ⟨rfl, ⟨nd, rfl⟩⟩; refine ⟨_, rfl, ?_⟩))
          go_ret
          exact ⟨rt, bw HB.out⟩
        ·rw [if_neg c25] at H
         exact absurd H (by simp)
       ·rw [if_neg c24] at H
        exact absurd H (by simp)
      ·rw [if_neg c23] at H
       have c23b0 : decide (x5_2 < 512) = false := decide_eq_false c23
       clear c23
       obtain rfl := Option.some.inj H
       go_wp2
       go_ret
       exact ⟨rt, bw HB.out⟩

/-! ### spec_l6Copy: function 78 -/
def spec_l6Copy.f (l0_0 : List Int) (a0_1 : Int) : Option (List Int × Int) := (some (([] : List Int) : List Int)).bind fun y463 => (if y463.length + l0_0.length < 17592186044416 then (some ((y463 ++ l0_0), a0_1)) else (none))
def spec_l6Copy.T1 : Bool × List (List Nat × List Nat) := (true, [([], []), ([], []), ([1], [1]), ([0, 2], [0, 2]), ([], []), ([4], [4]), ([3, 5], [3, 5]), ([6, 3, 0, 1, 2, 3, 4, 5, 6], [6])])
def spec_l6Copy.B1 : List Nat := [0, 0, 2, 7, 0, 16, 63, 127]
theorem spec_l6Copy.tab1 : rtab .any (opsOf Try.f78 1) = spec_l6Copy.T1 := by kernel_rfl
theorem spec_l6Copy.bits1 : waitsOk spec_l6Copy.T1.2 spec_l6Copy.B1 = true := by kernel_rfl
set_option maxHeartbeats 8000000 in
set_option maxRecDepth 100000 in
theorem spec_l6Copy.calls (A0_0 : Option Addr) (c0_0 : Nat) (l0_0 : List Int) (a0_1 : Int) (r1 : List Int) (r2 : Int) (w : World) (hr0_0 : Kd.C (Kd.int .i64) w A0_0 l0_0.length l0_0) (hc0_0 : l0_0.length ≤ c0_0) (h : spec_l6Copy.f l0_0 a0_1 = some (r1, r2)) :
  Calls Try.prog 78 #[.agg #[.slice A0_0 l0_0.length c0_0, .int .i64 a0_1]] w fun e w' => ∃ v0_ : Value, e = .returned (.agg #[v0_, .int .i64 r2]) ∧ Kd.R (Kd.int .i64) 3 w' w.heap.size (fun _ => True) v0_ r1 ∧ Below w.heap.size w w' := by
 have hu32 := Try.underlying32
 have HR0_0 := Aside0.mk hr0_0
 have HC0_0 := Aside0.mk hc0_0
 clear hr0_0 hc0_0
 have HB := Aside0.mk (Below.refl w.heap.size w)
 have H : ((some (([] : List Int) : List Int)).bind fun y463 => (if y463.length + l0_0.length < 17592186044416 then (some ((y463 ++ l0_0), a0_1)) else (none))) = some (r1, r2) := h
 clear h
 obtain ⟨y463, hy463⟩ : ∃ y_ : List Int, y_ = (([] : List Int)) := ⟨_, rfl⟩
 replace H : (if y463.length + l0_0.length < 17592186044416 then (some ((y463 ++ l0_0), a0_1)) else (none)) = some (r1, r2) := by first | (rw [hy463]; with_reducible exact H) | (have H2_ := (Option.bind_some _ _).symm.trans H; rw [hy463]; with_reducible exact H2_) | (have H2_ := (Option.bind_some _ _).symm.trans H; with_reducible exact H2_) | with_reducible exact H | (rw [hy463]; exact H) | exact H
 have Ny463 := Aside0.mk hy463
 clear hy463
 by_cases c2 : y463.length + l0_0.length < 17592186044416
 ·rw [if_pos c2] at H
  have LMc2 := Aside0.mk c2
  clear c2
  obtain ⟨y466, hy466⟩ : ∃ y_ : List Int, y_ = (y463 ++ l0_0) := ⟨_, rfl⟩
  replace H : (some (y466, a0_1)) = some (r1, r2) := by first | (rw [hy466]; with_reducible exact H) | (have H2_ := (Option.bind_some _ _).symm.trans H; rw [hy466]; with_reducible exact H2_) | (have H2_ := (Option.bind_some _ _).symm.trans H; with_reducible exact H2_) | with_reducible exact H | (rw [hy466]; exact H) | exact H
  have Ny466 := Aside0.mk hy466
  clear hy466
  simp only [Option.some.injEq, Prod.mk.injEq] at H
  obtain ⟨rfl, rfl⟩ := H
  go_enter Try.func78, Try.ntmps78
  try go_wp2_with (first | ((with_reducible refine gate_dst (N := 1) rfl ?_); refine bx (N := 1) (cs := #[.slice A0_0 l0_0.length c0_0, .int .i64 a0_1]) (t := 32) ?_; intro gb461 hg w3 hbox hb; have n0_ := Aside0.mk (below_step (bw HB.out) hb); have n1_ := Aside0.mk (hbox); have n2_ := Aside0.mk ((gs hg (bw HB.out))); have n3_ := Aside0.mk ((gs hg (bw HB.out))); clear HB; have HB := n0_; have BK461 := n1_; have GW461 := n2_; have GE461 := n3_; clear n0_ n1_ n2_ n3_; clear hb hbox hg) | ((with_reducible refine gate_dst (N := 2) rfl ?_); refine bx (N := 2) (cs := #[.slice none 0 0, .int .i64 0]) (t := 32) ?_; intro gb462 hg w4 hbox hb; have n0_ := Aside0.mk (blk_below (g := gb461) (o := .cells #[.slice A0_0 l0_0.length c0_0, .int .i64 a0_1] 32 (0, 0)) (kb BK461.out) hb); have n1_ := Aside0.mk (below_step (bw HB.out) hb); have n2_ := Aside0.mk (hbox); have n3_ := Aside0.mk ((gs hg (bw HB.out))); have n4_ := Aside0.mk ((gs hg (bw HB.out))); have n5_ := Aside0.mk ((ga hg BK461.out)); have n6_ := Aside0.mk ((gc hg BK461.out)); clear BK461; clear HB; have BK461 := n0_; have HB := n1_; have BK462 := n2_; have GW462 := n3_; have GE462 := n4_; have NB461_462 := n5_; have NB462_461 := n6_; clear n0_ n1_ n2_ n3_ n4_ n5_ n6_; clear hb hbox hg))
  have n0_ := Aside0.mk (blk_drew BK461.out)
  have n1_ := Aside0.mk (blk_drew BK462.out)
  have n2_ := Aside0.mk (below_drew1 HB.out)
  clear BK461; clear BK462; clear HB; have BK461 := n0_; have BK462 := n1_; have HB := n2_; clear n0_ n1_ n2_
  refine start_ (n := 8) (S := fun w' => w'.cell? ⟨gb461, 0, none⟩ = some (.slice A0_0 l0_0.length c0_0) ∧ w'.cell? ⟨gb461, 1, none⟩ = some (.int .i64 a0_1)) (ds := []) #[false, false, false, false, false, false, false, false] (by kernel_rfl) rfl rfl ⟨(blk_cell BK461.out 0).trans rfl, (blk_cell BK461.out 1).trans rfl⟩ (fun hHeld => ?_); refine with_tabW spec_l6Copy.tab1 spec_l6Copy.bits1 (fun HT_ HW_ => ?_)
  generalize w4.drew = w5 at BK461 BK462 HB hHeld ⊢
  refine pure_ (i := 1) (N := some 4) (v := ?_) (a' := ?_) #[false, true, false, false, false, false, false, false] rfl rfl (any_of HT_.out (by kernel_rfl)) (fun _ _ _ h => h) (Or.inl ⟨by rfl, ?_⟩) ?_ ?_
  rotate_left
  ·intro w'
   go_simp
   with_reducible rfl
  rotate_left
  ·simp only [Act.put, List.setIfInBounds_toArray, List.set_cons_zero, List.set_cons_succ, i64_w, i32_w]
   rfl
  refine pure_ (i := 4) (N := some 7) (v := ?_) (a' := ?_) #[false, true, false, false, true, false, false, false] rfl rfl (any_of HT_.out (by kernel_rfl)) (fun _ _ _ h => h) (Or.inl ⟨by rfl, ?_⟩) ?_ ?_
  rotate_left
  ·intro w'
   go_simp
   with_reducible rfl
  rotate_left
  ·simp only [Act.put, List.setIfInBounds_toArray, List.set_cons_zero, List.set_cons_succ, i64_w, i32_w]
   rfl
  refine take_ (i := 2) (N := some 5) (v := ?_) (a' := ?_) #[false, true, true, false, true, false, false, false] rfl rfl (take_ofW HT_.out HW_.out (by kernel_rfl)) (fun _ _ _ h => h) (Or.inl ⟨by rfl, ?_⟩) hHeld ?_ ?_
  rotate_left
  ·rintro w' ⟨s0, s1⟩
   go_simp
   with_reducible rfl
  rotate_left
  ·simp only [Act.put, List.setIfInBounds_toArray, List.set_cons_zero, List.set_cons_succ, i64_w, i32_w]
   rfl
  refine take_ (i := 5) (N := some 8) (v := ?_) (a' := ?_) #[false, true, true, false, true, true, false, false] rfl rfl (take_ofW HT_.out HW_.out (by kernel_rfl)) (fun _ _ _ h => h) (Or.inl ⟨by rfl, ?_⟩) hHeld ?_ ?_
  rotate_left
  ·rintro w' ⟨s0, s1⟩
   go_simp
   with_reducible rfl
  rotate_left
  ·simp only [Act.put, List.setIfInBounds_toArray, List.set_cons_zero, List.set_cons_succ, i64_w, i32_w]
   rfl
  refine one_ (i := 0) (N := some 3) #[true, true, true, false, true, true, false, false] rfl rfl (one_of HT_.out (by kernel_rfl)) (by decide) (fun K hK => ?_)
  refine Kd.R_lit_step (Kd.int .i64) _ 3 ?hg (N := 3) ?hd (xs := ([] : List Int)) (inner := []) (ok := fun _ => True) (okp := fun _ => True) ?hr ?hp (fun _ hk => hk) trivial (Below.refl _ _) (Nat.le_refl _) (by simp) ?_; (case hd => rfl); (case hg => rfl); (case hr => first | (go_simp; done) | (go_simp; rfl)); (case hp => exact (Reps.none _ _))
  intro v464 w6 ho7 hb hg_ hnew_
  clear hg_ hnew_
  (first | rw [← Ny463.out] at ho7 | (simp only [Int.reduceToNat] at ho7; rw [← Ny463.out] at ho7))
  have n0_ := Aside0.mk (Kd.R_lower ho7 (below_size (bw HB.out)))
  have n1_ := Aside0.mk (blk_below (g := gb461) (o := .cells #[.slice A0_0 l0_0.length c0_0, .int .i64 a0_1] 32 (0, 0)) (kb BK461.out) hb)
  have n2_ := Aside0.mk (blk_below (g := gb462) (o := .cells #[.slice none 0 0, .int .i64 0] 32 (0, 0)) (kb BK462.out) hb)
  have n3_ := Aside0.mk (below_step (bw HB.out) hb)
  clear BK461; clear BK462; clear HB; have HO465 := n0_; have BK461 := n1_; have BK462 := n2_; have HB := n3_; clear n0_ n1_ n2_ n3_; clear hb ho7
  refine hK.out _ _ ⟨(blk_cell BK461.out 0).trans rfl, (blk_cell BK461.out 1).trans rfl⟩ (fun hHeld => ?_)
  clear hK K
  refine norm_ (a' := ?_) ?_ ?_
  rotate_left
  ·show Act.put _ (some 3) _ = _
   simp only [Act.put, List.setIfInBounds_toArray, List.set_cons_zero, List.set_cons_succ, i64_w, i32_w]
   rfl
  refine one_ (i := 3) (N := some 6) #[true, true, true, true, true, true, false, false] rfl rfl (one_of HT_.out (by kernel_rfl)) (by decide) (fun K hK => ?_)
  refine Kd.R_append_rows_step (Kd.int .i64) (w0 := w) w.heap.size (by rfl) (.tmp 3) (.tmp 5) 30 3 (.int .i64 0) 8 rfl Try.underlying30 info3 rfl (by decide) (by omega) v464 y463 l0_0 _ _ _ (fun _ => True) (fun _ => False) rfl rfl ?aO ?aR (fun _ _ h => h) (fun _ h => h.elim) ?aF ?aB ?aS ?aL ?_
  (case aR => exact kc (Kd.C_below HR0_0.out HB.out))
  (case aB => exact (bw HB.out))
  (case aF => exact (fun _ _ => trivial))
  (case aO => exact (kr HO465.out))
  (case aS => exact (below_size (bw HB.out)))
  (case aL => have := LMc2.out; omega)
  intro v467 w8 ho hb hg hat
  rw [← Ny466.out] at ho
  have n0_ := Aside0.mk (blk_grown (g := gb461) (o := .cells #[.slice A0_0 l0_0.length c0_0, .int .i64 a0_1] 32 (0, 0)) (kb BK461.out) hg (Kd.R_ne HO465.out BK461.out (by decide)))
  have n1_ := Aside0.mk (blk_grown (g := gb462) (o := .cells #[.slice none 0 0, .int .i64 0] 32 (0, 0)) (kb BK462.out) hg (Kd.R_ne HO465.out BK462.out (by decide)))
  have n2_ := Aside0.mk (hb)
  have n3_ := Aside0.mk (ho)
  clear BK461; clear BK462; clear HB; clear HO465; have BK461 := n0_; have BK462 := n1_; have HB := n2_; have HO468 := n3_; clear n0_ n1_ n2_ n3_; clear ho hb hg hat
  obtain ⟨Ao9, co9, eo9⟩ := Kd.R_slice HO468.out
  (first | subst eo9 | (injection eo9 with f1_ f2_ f3_; have f4_ := f1_.symm; have f5_ := f3_.symm; clear f1_ f2_ f3_; subst f4_; subst f5_))
  refine hK.out _ _ ⟨(blk_cell BK461.out 0).trans rfl, (blk_cell BK461.out 1).trans rfl⟩ (fun hHeld => ?_)
  clear hK K
  refine norm_ (a' := ?_) ?_ ?_
  rotate_left
  ·show Act.put _ (some 6) _ = _
   simp only [Act.put, List.setIfInBounds_toArray, List.set_cons_zero, List.set_cons_succ, i64_w, i32_w]
   rfl
  refine pure_ (i := 6) (N := some 9) (v := ?_) (a' := ?_) #[true, true, true, true, true, true, true, false] rfl rfl (any_of HT_.out (by kernel_rfl)) (fun _ _ _ h => h) (Or.inl ⟨by rfl, ?_⟩) ?_ ?_
  rotate_left
  ·intro w'
   go_simp
   with_reducible rfl
  rotate_left
  ·simp only [Act.put, List.setIfInBounds_toArray, List.set_cons_zero, List.set_cons_succ, i64_w, i32_w]
   rfl
  refine one_ (i := 7) (N := none) #[true, true, true, true, true, true, true, true] rfl rfl (one_of HT_.out (by kernel_rfl)) (by decide) (fun K hK => ?_)
  have hs10 : w8.cell? ⟨gb462, 0, none⟩ = some (.slice none 0 0) := (blk_cell BK462.out 0).trans rfl
  have hfs10 := blk_frozen BK462.out 0
  have hns10_0 := NB461_462.out
  have hms10_0 := NB462_461.out
  have hs11 : w8.cell? ⟨gb462, 1, none⟩ = some (.int .i64 0) := (blk_cell BK462.out 1).trans rfl
  have hfs11 := blk_frozen BK462.out 1
  have hns11_0 := NB461_462.out
  have hms11_0 := NB462_461.out
  refine skip_ (w1 := ?_) (by rfl) rfl ?_ ?_
  rotate_left
  ·go_simp
   rfl
  refine hK.out _ _ ⟨((cell_far (p := ⟨gb462, _, none⟩) NB461_462.out _).trans (((cell_far (p := ⟨gb462, _, none⟩) NB461_462.out _).trans (hHeld.1)))), ((cell_far (p := ⟨gb462, _, none⟩) NB461_462.out _).trans (((cell_far (p := ⟨gb462, _, none⟩) NB461_462.out _).trans (hHeld.2))))⟩ (fun hHeld => ?_)
  clear hK K
  refine done_ (done_of HT_.out (by kernel_rfl)) ?_
  try go_wp2
  refine bodyPost_ret (results_cell_row rfl _ _ gb462 32 #[.slice Ao9 y466.length co9, .int .i64 a0_1] (0, 0) _ rfl (by (with_reducible repeat (first | refine blk_drewN ?_ _ | refine blk_drew ?_ | refine blk_alloc ?_ _)); refine blk_put (cs := #[.slice Ao9 y466.length co9, .int .i64 0]) ?_ 1 _ rfl; (with_reducible repeat (first | refine blk_drewN ?_ _ | refine blk_drew ?_ | refine blk_alloc ?_ _)); refine blk_put (cs := #[.slice none 0 0, .int .i64 0]) ?_ 0 _ rfl; (with_reducible repeat (first | refine blk_drewN ?_ _ | refine blk_drew ?_ | refine blk_alloc ?_ _)); exact BK462.out) Try.underlying32 rfl (by kernel_rfl)) rfl ?_
  exact ⟨_, rt, kr (Kd.R_mono (Kd.R_far (p := ⟨gb462, 1, none⟩) (Kd.R_far (p := ⟨gb462, 0, none⟩) (Kd.R_types HO468.out BK462.out (by decide)) (fun _ hk => hk.2) (.slice Ao9 y466.length co9)) (fun _ hk => hk.2) (.int .i64 a0_1)) (fun _ hk => trivial)), bw HB.out⟩
 ·rw [if_neg c2] at H
  exact absurd H (by simp)

end Go.Proofs.Ytmkccgbfgebfbaa.MFnMemory
