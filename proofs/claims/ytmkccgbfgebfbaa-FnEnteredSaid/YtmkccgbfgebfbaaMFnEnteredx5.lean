/- Walks of functions that the law FnEntered reaches: each comes to just what its Lean function says. (Begun as the texts that print.sh wrote for this claim; some of them, and those that it does not write, are mine.) No condition. -/
import Derived.Test.YtmkccgbfgebfbaaMFnEnteredx4
namespace Go.Proofs.Ytmkccgbfgebfbaa.MFnEntered
open Go.RowKit Go.Proofs.YtmkccgbfgebfbaaW.PrintWords Go.Proofs.YtmkccgbfgebfbaaW.PrintLast Go.Proofs.YtmkccgbfgebfbaaW.PrintMore
attribute [local go_sem] max2_int min2_int max_two min_two max_three min_three max_four min_four   -- for this text's walks alone
set_option linter.unusedVariables false
set_option linter.unusedSimpArgs false

/-! ### spec_l5Draw: function 84 -/
def spec_l5Draw.f (s0_0 : List Int) (s0_1 : Int) (s0_2 : Int) : Option (Int × Int × Int × Int × Bool × Bool × Bool × Bool × Int × Int) := (spec_l5DrawRight.f s0_0 s0_1 s0_2).bind fun bt575 => ((spec_l1Below.f s0_0 bt575.2.2.2.2.2.2.2.2.1 bt575.2.2.2.2.2.2.2.2.2 25).bind fun bt586 => (if bt586.1 = 0 then ((spec_l1DrawInt.f s0_0 bt586.2.1 bt586.2.2).bind fun bt589 => (some (bt589.1, bt575.2.1, bt575.2.2.1, bt575.2.2.2.1, bt575.2.2.2.2.1, bt575.2.2.2.2.2.1, bt575.2.2.2.2.2.2.1, bt575.2.2.2.2.2.2.2.1, bt589.2.1, bt589.2.2))) else (if bt586.1 = 1 then ((spec_l1DrawInt.f s0_0 bt586.2.1 bt586.2.2).bind fun bt592 => (some (bt575.1, bt592.1, bt575.2.2.1, bt575.2.2.2.1, bt575.2.2.2.2.1, bt575.2.2.2.2.2.1, bt575.2.2.2.2.2.2.1, bt575.2.2.2.2.2.2.2.1, bt592.2.1, bt592.2.2))) else (if bt586.1 = 2 then ((spec_l1DrawInt.f s0_0 bt586.2.1 bt586.2.2).bind fun bt595 => (some (bt575.1, bt575.2.1, bt595.1, bt575.2.2.2.1, bt575.2.2.2.2.1, bt575.2.2.2.2.2.1, bt575.2.2.2.2.2.2.1, bt575.2.2.2.2.2.2.2.1, bt595.2.1, bt595.2.2))) else (if bt586.1 = 3 then ((spec_l1PickInt.f s0_0 bt586.2.1 bt586.2.2 (([(-1), 65536] : List Int))).bind fun bt601 => (some (bt575.1, bt575.2.1, bt575.2.2.1, bt601.1, bt575.2.2.2.2.1, bt575.2.2.2.2.2.1, bt575.2.2.2.2.2.2.1, bt575.2.2.2.2.2.2.2.1, bt601.2.1, bt601.2.2))) else (some (bt575.1, bt575.2.1, bt575.2.2.1, bt575.2.2.2.1, bt575.2.2.2.2.1, bt575.2.2.2.2.2.1, bt575.2.2.2.2.2.2.1, bt575.2.2.2.2.2.2.2.1, bt586.2.1, bt586.2.2)))))))
set_option maxHeartbeats 8000000 in
set_option maxRecDepth 100000 in
theorem spec_l5Draw.calls (g : Nat) (s0_0 : List Int) (s0_1 : Int) (s0_2 : Int) (r1 : Int) (r2 : Int) (r3 : Int) (r4 : Int) (r5 : Bool) (r6 : Bool) (r7 : Bool) (r8 : Bool) (r9 : Int) (r10 : Int) (w0 w : World) (hI : IsS107 w0 w g s0_0 s0_1 s0_2) (hB : Below w0.heap.size w0 w) (h : spec_l5Draw.f s0_0 s0_1 s0_2 = some (r1, r2, r3, r4, r5, r6, r7, r8, r9, r10)) :
  Calls Try.prog 84 #[.pointer (some ⟨g, 0, none⟩)] w fun e w' => e = .returned (.agg #[.int .i64 r1, .int .i64 r2, .int .i64 r3, .int .i64 r4, .bool r5, .bool r6, .bool r7, .bool r8]) ∧ IsS107 w0 w' g s0_0 r9 r10 ∧ Below w0.heap.size w0 w' ∧ KeepBut w w' g none := by
 have hu55 := Try.underlying55
 have HI0 := Aside0.mk hI
 have HK := Aside0.mk (KeepBut.refl w g none)
 have HL := Aside0.mk hB.size
 clear hI
 have HW0 := Aside0.mk hB.size
 have HB := Aside0.mk hB
 clear hB
 have H : ((spec_l5DrawRight.f s0_0 s0_1 s0_2).bind fun bt575 => ((spec_l1Below.f s0_0 bt575.2.2.2.2.2.2.2.2.1 bt575.2.2.2.2.2.2.2.2.2 25).bind fun bt586 => (if bt586.1 = 0 then ((spec_l1DrawInt.f s0_0 bt586.2.1 bt586.2.2).bind fun bt589 => (some (bt589.1, bt575.2.1, bt575.2.2.1, bt575.2.2.2.1, bt575.2.2.2.2.1, bt575.2.2.2.2.2.1, bt575.2.2.2.2.2.2.1, bt575.2.2.2.2.2.2.2.1, bt589.2.1, bt589.2.2))) else (if bt586.1 = 1 then ((spec_l1DrawInt.f s0_0 bt586.2.1 bt586.2.2).bind fun bt592 => (some (bt575.1, bt592.1, bt575.2.2.1, bt575.2.2.2.1, bt575.2.2.2.2.1, bt575.2.2.2.2.2.1, bt575.2.2.2.2.2.2.1, bt575.2.2.2.2.2.2.2.1, bt592.2.1, bt592.2.2))) else (if bt586.1 = 2 then ((spec_l1DrawInt.f s0_0 bt586.2.1 bt586.2.2).bind fun bt595 => (some (bt575.1, bt575.2.1, bt595.1, bt575.2.2.2.1, bt575.2.2.2.2.1, bt575.2.2.2.2.2.1, bt575.2.2.2.2.2.2.1, bt575.2.2.2.2.2.2.2.1, bt595.2.1, bt595.2.2))) else (if bt586.1 = 3 then ((spec_l1PickInt.f s0_0 bt586.2.1 bt586.2.2 (([(-1), 65536] : List Int))).bind fun bt601 => (some (bt575.1, bt575.2.1, bt575.2.2.1, bt601.1, bt575.2.2.2.2.1, bt575.2.2.2.2.2.1, bt575.2.2.2.2.2.2.1, bt575.2.2.2.2.2.2.2.1, bt601.2.1, bt601.2.2))) else (some (bt575.1, bt575.2.1, bt575.2.2.1, bt575.2.2.2.1, bt575.2.2.2.2.1, bt575.2.2.2.2.2.1, bt575.2.2.2.2.2.2.1, bt575.2.2.2.2.2.2.2.1, bt586.2.1, bt586.2.2)))))))) = some (r1, r2, r3, r4, r5, r6, r7, r8, r9, r10) := h
 clear h
 replace H := Option.bind_eq_some_iff.mp H
 obtain ⟨⟨t575, t576, t577, t578, t579, t580, t581, t582, t583, t584⟩, A20, H⟩ := H
 replace H : ((spec_l1Below.f s0_0 t583 t584 25).bind fun bt586 => (if bt586.1 = 0 then ((spec_l1DrawInt.f s0_0 bt586.2.1 bt586.2.2).bind fun bt589 => (some (bt589.1, t576, t577, t578, t579, t580, t581, t582, bt589.2.1, bt589.2.2))) else (if bt586.1 = 1 then ((spec_l1DrawInt.f s0_0 bt586.2.1 bt586.2.2).bind fun bt592 => (some (t575, bt592.1, t577, t578, t579, t580, t581, t582, bt592.2.1, bt592.2.2))) else (if bt586.1 = 2 then ((spec_l1DrawInt.f s0_0 bt586.2.1 bt586.2.2).bind fun bt595 => (some (t575, t576, bt595.1, t578, t579, t580, t581, t582, bt595.2.1, bt595.2.2))) else (if bt586.1 = 3 then ((spec_l1PickInt.f s0_0 bt586.2.1 bt586.2.2 (([(-1), 65536] : List Int))).bind fun bt601 => (some (t575, t576, t577, bt601.1, t579, t580, t581, t582, bt601.2.1, bt601.2.2))) else (some (t575, t576, t577, t578, t579, t580, t581, t582, bt586.2.1, bt586.2.2))))))) = some (r1, r2, r3, r4, r5, r6, r7, r8, r9, r10) := H
 have A2 := Aside0.mk A20
 clear A20
 replace H := Option.bind_eq_some_iff.mp H
 obtain ⟨⟨t586, t587, t588⟩, A30, H⟩ := H
 replace H : (if t586 = 0 then ((spec_l1DrawInt.f s0_0 t587 t588).bind fun bt589 => (some (bt589.1, t576, t577, t578, t579, t580, t581, t582, bt589.2.1, bt589.2.2))) else (if t586 = 1 then ((spec_l1DrawInt.f s0_0 t587 t588).bind fun bt592 => (some (t575, bt592.1, t577, t578, t579, t580, t581, t582, bt592.2.1, bt592.2.2))) else (if t586 = 2 then ((spec_l1DrawInt.f s0_0 t587 t588).bind fun bt595 => (some (t575, t576, bt595.1, t578, t579, t580, t581, t582, bt595.2.1, bt595.2.2))) else (if t586 = 3 then ((spec_l1PickInt.f s0_0 t587 t588 (([(-1), 65536] : List Int))).bind fun bt601 => (some (t575, t576, t577, bt601.1, t579, t580, t581, t582, bt601.2.1, bt601.2.2))) else (some (t575, t576, t577, t578, t579, t580, t581, t582, t587, t588)))))) = some (r1, r2, r3, r4, r5, r6, r7, r8, r9, r10) := H
 have A3 := Aside0.mk A30
 clear A30
 by_cases c4 : t586 = 0
 ·rw [if_pos c4] at H
  have c4b0 : (t586 == 0) = true := beq_iff_eq.mpr c4
  have c4b1 : (t586 != 0) = false := bne_eq_false_iff_eq.mpr c4
  clear c4
  replace H := Option.bind_eq_some_iff.mp H
  obtain ⟨⟨t589, t590, t591⟩, A50, H⟩ := H
  replace H : (some (t589, t576, t577, t578, t579, t580, t581, t582, t590, t591)) = some (r1, r2, r3, r4, r5, r6, r7, r8, r9, r10) := H
  have A5 := Aside0.mk A50
  clear A50
  simp only [Option.some.injEq, Prod.mk.injEq] at H
  obtain ⟨rfl, rfl, rfl, rfl, rfl, rfl, rfl, rfl, rfl, rfl⟩ := H
  go_enter Try.func84, Try.ntmps84
  go_wp2_with (first | ((with_reducible refine gate_dst (N := 2) rfl ?_); refine bx (N := 2) (cs := #[.int .i64 0, .int .i64 0, .int .i64 0, .int .i64 0, .bool false, .bool false, .bool false, .bool false]) (t := 55) ?_; intro gb574 hg w6 hbox hb; have n0_ := Aside0.mk (IsS107.below (si HI0.out) hb); have n1_ := Aside0.mk (KeepBut.trans (kp HK.out) (KeepBut.of_below hb g none) (.inl rfl)); have n2_ := Aside0.mk (below_step (bi HB.out) hb); have n3_ := Aside0.mk (hbox); have n4_ := Aside0.mk ((by rw [hg]; exact (keep_size (w := w) (g := g) (row := none) (kp HK.out)) : w.heap.size ≤ gb574)); have n5_ := Aside0.mk ((Nat.le_trans HW0.out (by rw [hg]; exact (keep_size (w := w) (g := g) (row := none) (kp HK.out)) : w.heap.size ≤ gb574) : w0.heap.size ≤ gb574)); have n6_ := Aside0.mk ((by rw [hg]; exact Nat.ne_of_lt (IsS107.lt (show IsS107 w0 _ g s0_0 s0_1 s0_2 from si HI0.out)) : g ≠ gb574)); have n7_ := Aside0.mk ((by rw [hg]; exact Nat.ne_of_gt (IsS107.lt (show IsS107 w0 _ g s0_0 s0_1 s0_2 from si HI0.out)) : gb574 ≠ g)); clear HI0; clear HK; clear HB; have HI0 := n0_; have HK := n1_; have HB := n2_; have BK574 := n3_; have GW574 := n4_; have GE574 := n5_; have NB0_574 := n6_; have NB574_0 := n7_; clear n0_ n1_ n2_ n3_ n4_ n5_ n6_ n7_; clear hb hbox hg) | ((with_reducible refine gate_callee (f := 108) rfl ?_); refine goesM_ (some 5) rfl rfl Try.func108 #[.pointer (some ⟨g, 0, none⟩)] ?_; (with_reducible refine (spec_l5DrawRight.calls g s0_0 s0_1 s0_2 t575 t576 t577 t578 t579 t580 t581 t582 t583 t584 w0 _ ?side1 ?side2 A2.out).mono ?_); (case side1 => exact si HI0.out); (case side2 => exact bi HB.out); rintro e w7 ⟨rfl, hi, hb, hk⟩; refine ⟨_, rfl, ?_⟩; replace BK574 := Aside0.mk (kB hk (kb BK574.out) NB574_0); replace HK := Aside0.mk (KeepBut.trans (kp HK.out) hk (.inl rfl)); replace HB := Aside0.mk (hb); replace HI0 := Aside0.mk (hi); (try clear hb); (try clear hb2); (try clear hk); (try clear hi)) | ((with_reducible refine gate_dst (N := 3) rfl ?_); refine bx (N := 3) (cs := #[.int .i64 0, .int .i64 0, .int .i64 0, .int .i64 0, .bool false, .bool false, .bool false, .bool false]) (t := 55) ?_; intro gb585 hg w8 hbox hb; have n0_ := Aside0.mk (IsS107.below (si HI0.out) hb); have n1_ := Aside0.mk (bb BK574 hb); have n2_ := Aside0.mk (KeepBut.trans (kp HK.out) (KeepBut.of_below hb g none) (.inl rfl)); have n3_ := Aside0.mk (below_step (bi HB.out) hb); have n4_ := Aside0.mk (hbox); have n5_ := Aside0.mk ((by rw [hg]; exact (keep_size (w := w) (g := g) (row := none) (kp HK.out)) : w.heap.size ≤ gb585)); have n6_ := Aside0.mk ((Nat.le_trans HW0.out (by rw [hg]; exact (keep_size (w := w) (g := g) (row := none) (kp HK.out)) : w.heap.size ≤ gb585) : w0.heap.size ≤ gb585)); have n7_ := Aside0.mk ((ga hg BK574.out)); have n8_ := Aside0.mk ((gc hg BK574.out)); have n9_ := Aside0.mk ((by rw [hg]; exact Nat.ne_of_lt (IsS107.lt (show IsS107 w0 _ g s0_0 t583 t584 from si HI0.out)) : g ≠ gb585)); have n10_ := Aside0.mk ((by rw [hg]; exact Nat.ne_of_gt (IsS107.lt (show IsS107 w0 _ g s0_0 t583 t584 from si HI0.out)) : gb585 ≠ g)); clear HI0; clear BK574; clear HK; clear HB; have HI0 := n0_; have BK574 := n1_; have HK := n2_; have HB := n3_; have BK585 := n4_; have GW585 := n5_; have GE585 := n6_; have NB574_585 := n7_; have NB585_574 := n8_; have NB0_585 := n9_; have NB585_0 := n10_; clear n0_ n1_ n2_ n3_ n4_ n5_ n6_ n7_ n8_ n9_ n10_; clear hb hbox hg; have hnb9 := NB585_574.out; have hnc9 := NB574_585.out; have hnb10 := NB585_0.out; have hnc10 := NB0_585.out; obtain ⟨hcz11_0, hcz11_1, hcz11_2, hcz11_3, hcz11_4, hcz11_5, hcz11_6, hcz11_7⟩ := ce8 BK585; have hfz11_0 := blk_frozen BK585.out 0; have hfz11_1 := blk_frozen BK585.out 1; have hfz11_2 := blk_frozen BK585.out 2; have hfz11_3 := blk_frozen BK585.out 3; have hfz11_4 := blk_frozen BK585.out 4; have hfz11_5 := blk_frozen BK585.out 5; have hfz11_6 := blk_frozen BK585.out 6; have hfz11_7 := blk_frozen BK585.out 7) | ((with_reducible refine gate_callee (f := 60) rfl ?_); refine goesM_ (some 7) rfl rfl Try.func60 #[.pointer (some ⟨g, 0, none⟩), .int .i64 25] ?_; (with_reducible refine (spec_l1Below.calls g s0_0 t583 t584 25 t586 t587 t588 w0 _ ?side1 ?side2 A3.out).mono ?_); (case side1 => exact si HI0.out); (case side2 => exact bi HB.out); rintro e w12 ⟨rfl, hi, hb, hk⟩; refine ⟨_, rfl, ?_⟩; replace BK574 := Aside0.mk (kB hk (kf BK574.out) NB574_0); replace BK585 := Aside0.mk (kB hk (o := .cells #[.int .i64 t575, .int .i64 t576, .int .i64 t577, .int .i64 t578, .bool t579, .bool t580, .bool t581, .bool t582] 55 (0, 0)) (bq BK585.out) NB585_0); replace HK := Aside0.mk (KeepBut.trans (kp HK.out) hk (.inl rfl)); replace HB := Aside0.mk (hb); replace HI0 := Aside0.mk (hi); (try clear hb); (try clear hb2); (try clear hk); (try clear hi)) | ((with_reducible refine gate_callee (f := 75) rfl ?_); refine goesM_ (some 11) rfl rfl Try.func75 #[.pointer (some ⟨g, 0, none⟩)] ?_; (with_reducible refine (spec_l1DrawInt.calls g s0_0 t587 t588 t589 t590 t591 w0 _ ?side1 ?side2 A5.out).mono ?_); (case side1 => exact si HI0.out); (case side2 => exact bi HB.out); rintro e w13 ⟨rfl, hi, hb, hk⟩; refine ⟨_, rfl, ?_⟩; replace BK574 := Aside0.mk (kB hk (kb BK574.out) NB574_0); replace BK585 := Aside0.mk (kB hk (kb BK585.out) NB585_0); replace HK := Aside0.mk (KeepBut.trans (kp HK.out) hk (.inl rfl)); replace HB := Aside0.mk (hb); replace HI0 := Aside0.mk (hi); (try clear hb); (try clear hb2); (try clear hk); (try clear hi); obtain ⟨hcz14_0, hcz14_1, hcz14_2, hcz14_3, hcz14_4, hcz14_5, hcz14_6, hcz14_7⟩ := ce8 BK585; obtain ⟨hfz14_0, hfz14_1, hfz14_2, hfz14_3, hfz14_4, hfz14_5, hfz14_6, hfz14_7⟩ := fz8 BK585; have hnb15 := NB574_0.out; have hnc15 := NB0_574.out; obtain ⟨hcz16_0, hcz16_1, hcz16_2, hcz16_3, hcz16_4, hcz16_5, hcz16_6, hcz16_7⟩ := ce8 BK574; have hfz16_0 := blk_frozen BK574.out 0; have hfz16_1 := blk_frozen BK574.out 1; have hfz16_2 := blk_frozen BK574.out 2; have hfz16_3 := blk_frozen BK574.out 3; have hfz16_4 := blk_frozen BK574.out 4; have hfz16_5 := blk_frozen BK574.out 5; have hfz16_6 := blk_frozen BK574.out 6; have hfz16_7 := blk_frozen BK574.out 7))
  refine bodyPost_ret (results_cell_row rfl _ _ gb574 55 #[.int .i64 t589, .int .i64 t576, .int .i64 t577, .int .i64 t578, .bool t579, .bool t580, .bool t581, .bool t582] (0, 0) _ rfl (bf NB574_585 BK574.out) Try.underlying55 rfl (by kernel_rfl)) rfl ?_
  exact ⟨rt, si HI0.out, bi HB.out, kp HK.out⟩
 ·rw [if_neg c4] at H
  have c4b0 : (t586 == 0) = false := beq_eq_false_iff_ne.mpr c4
  have c4b1 : (t586 != 0) = true := bne_iff_ne.mpr c4
  by_cases c17 : t586 = 1
  ·rw [if_pos c17] at H
   have c17b0 : (t586 == 1) = true := beq_iff_eq.mpr c17
   have c17b1 : (t586 != 1) = false := bne_eq_false_iff_eq.mpr c17
   clear c17
   replace H := Option.bind_eq_some_iff.mp H
   obtain ⟨⟨t592, t593, t594⟩, A180, H⟩ := H
   replace H : (some (t575, t592, t577, t578, t579, t580, t581, t582, t593, t594)) = some (r1, r2, r3, r4, r5, r6, r7, r8, r9, r10) := H
   have A18 := Aside0.mk A180
   clear A180
   simp only [Option.some.injEq, Prod.mk.injEq] at H
   obtain ⟨rfl, rfl, rfl, rfl, rfl, rfl, rfl, rfl, rfl, rfl⟩ := H
   go_enter Try.func84, Try.ntmps84
   go_wp2_with (first | ((with_reducible refine gate_dst (N := 2) rfl ?_); refine bx (N := 2) (cs := #[.int .i64 0, .int .i64 0, .int .i64 0, .int .i64 0, .bool false, .bool false, .bool false, .bool false]) (t := 55) ?_; intro gb574 hg w19 hbox hb; have n0_ := Aside0.mk (IsS107.below (si HI0.out) hb); have n1_ := Aside0.mk (KeepBut.trans (kp HK.out) (KeepBut.of_below hb g none) (.inl rfl)); have n2_ := Aside0.mk (below_step (bi HB.out) hb); have n3_ := Aside0.mk (hbox); have n4_ := Aside0.mk ((by rw [hg]; exact (keep_size (w := w) (g := g) (row := none) (kp HK.out)) : w.heap.size ≤ gb574)); have n5_ := Aside0.mk ((Nat.le_trans HW0.out (by rw [hg]; exact (keep_size (w := w) (g := g) (row := none) (kp HK.out)) : w.heap.size ≤ gb574) : w0.heap.size ≤ gb574)); have n6_ := Aside0.mk ((by rw [hg]; exact Nat.ne_of_lt (IsS107.lt (show IsS107 w0 _ g s0_0 s0_1 s0_2 from si HI0.out)) : g ≠ gb574)); have n7_ := Aside0.mk ((by rw [hg]; exact Nat.ne_of_gt (IsS107.lt (show IsS107 w0 _ g s0_0 s0_1 s0_2 from si HI0.out)) : gb574 ≠ g)); clear HI0; clear HK; clear HB; have HI0 := n0_; have HK := n1_; have HB := n2_; have BK574 := n3_; have GW574 := n4_; have GE574 := n5_; have NB0_574 := n6_; have NB574_0 := n7_; clear n0_ n1_ n2_ n3_ n4_ n5_ n6_ n7_; clear hb hbox hg) | ((with_reducible refine gate_callee (f := 108) rfl ?_); refine goesM_ (some 5) rfl rfl Try.func108 #[.pointer (some ⟨g, 0, none⟩)] ?_; (with_reducible refine (spec_l5DrawRight.calls g s0_0 s0_1 s0_2 t575 t576 t577 t578 t579 t580 t581 t582 t583 t584 w0 _ ?side1 ?side2 A2.out).mono ?_); (case side1 => exact si HI0.out); (case side2 => exact bi HB.out); rintro e w20 ⟨rfl, hi, hb, hk⟩; refine ⟨_, rfl, ?_⟩; replace BK574 := Aside0.mk (kB hk (kb BK574.out) NB574_0); replace HK := Aside0.mk (KeepBut.trans (kp HK.out) hk (.inl rfl)); replace HB := Aside0.mk (hb); replace HI0 := Aside0.mk (hi); (try clear hb); (try clear hb2); (try clear hk); (try clear hi)) | ((with_reducible refine gate_dst (N := 3) rfl ?_); refine bx (N := 3) (cs := #[.int .i64 0, .int .i64 0, .int .i64 0, .int .i64 0, .bool false, .bool false, .bool false, .bool false]) (t := 55) ?_; intro gb585 hg w21 hbox hb; have n0_ := Aside0.mk (IsS107.below (si HI0.out) hb); have n1_ := Aside0.mk (bb BK574 hb); have n2_ := Aside0.mk (KeepBut.trans (kp HK.out) (KeepBut.of_below hb g none) (.inl rfl)); have n3_ := Aside0.mk (below_step (bi HB.out) hb); have n4_ := Aside0.mk (hbox); have n5_ := Aside0.mk ((by rw [hg]; exact (keep_size (w := w) (g := g) (row := none) (kp HK.out)) : w.heap.size ≤ gb585)); have n6_ := Aside0.mk ((Nat.le_trans HW0.out (by rw [hg]; exact (keep_size (w := w) (g := g) (row := none) (kp HK.out)) : w.heap.size ≤ gb585) : w0.heap.size ≤ gb585)); have n7_ := Aside0.mk ((ga hg BK574.out)); have n8_ := Aside0.mk ((gc hg BK574.out)); have n9_ := Aside0.mk ((by rw [hg]; exact Nat.ne_of_lt (IsS107.lt (show IsS107 w0 _ g s0_0 t583 t584 from si HI0.out)) : g ≠ gb585)); have n10_ := Aside0.mk ((by rw [hg]; exact Nat.ne_of_gt (IsS107.lt (show IsS107 w0 _ g s0_0 t583 t584 from si HI0.out)) : gb585 ≠ g)); clear HI0; clear BK574; clear HK; clear HB; have HI0 := n0_; have BK574 := n1_; have HK := n2_; have HB := n3_; have BK585 := n4_; have GW585 := n5_; have GE585 := n6_; have NB574_585 := n7_; have NB585_574 := n8_; have NB0_585 := n9_; have NB585_0 := n10_; clear n0_ n1_ n2_ n3_ n4_ n5_ n6_ n7_ n8_ n9_ n10_; clear hb hbox hg; have hnb22 := NB585_574.out; have hnc22 := NB574_585.out; have hnb23 := NB585_0.out; have hnc23 := NB0_585.out; obtain ⟨hcz24_0, hcz24_1, hcz24_2, hcz24_3, hcz24_4, hcz24_5, hcz24_6, hcz24_7⟩ := ce8 BK585; have hfz24_0 := blk_frozen BK585.out 0; have hfz24_1 := blk_frozen BK585.out 1; have hfz24_2 := blk_frozen BK585.out 2; have hfz24_3 := blk_frozen BK585.out 3; have hfz24_4 := blk_frozen BK585.out 4; have hfz24_5 := blk_frozen BK585.out 5; have hfz24_6 := blk_frozen BK585.out 6; have hfz24_7 := blk_frozen BK585.out 7) | ((with_reducible refine gate_callee (f := 60) rfl ?_); refine goesM_ (some 7) rfl rfl Try.func60 #[.pointer (some ⟨g, 0, none⟩), .int .i64 25] ?_; (with_reducible refine (spec_l1Below.calls g s0_0 t583 t584 25 t586 t587 t588 w0 _ ?side1 ?side2 A3.out).mono ?_); (case side1 => exact si HI0.out); (case side2 => exact bi HB.out); rintro e w25 ⟨rfl, hi, hb, hk⟩; refine ⟨_, rfl, ?_⟩; replace BK574 := Aside0.mk (kB hk (kf BK574.out) NB574_0); replace BK585 := Aside0.mk (kB hk (o := .cells #[.int .i64 t575, .int .i64 t576, .int .i64 t577, .int .i64 t578, .bool t579, .bool t580, .bool t581, .bool t582] 55 (0, 0)) (bq BK585.out) NB585_0); replace HK := Aside0.mk (KeepBut.trans (kp HK.out) hk (.inl rfl)); replace HB := Aside0.mk (hb); replace HI0 := Aside0.mk (hi); (try clear hb); (try clear hb2); (try clear hk); (try clear hi)) | ((with_reducible refine gate_callee (f := 75) rfl ?_); refine goesM_ (some 16) rfl rfl Try.func75 #[.pointer (some ⟨g, 0, none⟩)] ?_; (with_reducible refine (spec_l1DrawInt.calls g s0_0 t587 t588 t592 t593 t594 w0 _ ?side1 ?side2 A18.out).mono ?_); (case side1 => exact si HI0.out); (case side2 => exact bi HB.out); rintro e w26 ⟨rfl, hi, hb, hk⟩; refine ⟨_, rfl, ?_⟩; replace BK574 := Aside0.mk (kB hk (kb BK574.out) NB574_0); replace BK585 := Aside0.mk (kB hk (kb BK585.out) NB585_0); replace HK := Aside0.mk (KeepBut.trans (kp HK.out) hk (.inl rfl)); replace HB := Aside0.mk (hb); replace HI0 := Aside0.mk (hi); (try clear hb); (try clear hb2); (try clear hk); (try clear hi); obtain ⟨hcz27_0, hcz27_1, hcz27_2, hcz27_3, hcz27_4, hcz27_5, hcz27_6, hcz27_7⟩ := ce8 BK585; obtain ⟨hfz27_0, hfz27_1, hfz27_2, hfz27_3, hfz27_4, hfz27_5, hfz27_6, hfz27_7⟩ := fz8 BK585; have hnb28 := NB574_0.out; have hnc28 := NB0_574.out; obtain ⟨hcz29_0, hcz29_1, hcz29_2, hcz29_3, hcz29_4, hcz29_5, hcz29_6, hcz29_7⟩ := ce8 BK574; have hfz29_0 := blk_frozen BK574.out 0; have hfz29_1 := blk_frozen BK574.out 1; have hfz29_2 := blk_frozen BK574.out 2; have hfz29_3 := blk_frozen BK574.out 3; have hfz29_4 := blk_frozen BK574.out 4; have hfz29_5 := blk_frozen BK574.out 5; have hfz29_6 := blk_frozen BK574.out 6; have hfz29_7 := blk_frozen BK574.out 7))
   refine bodyPost_ret (results_cell_row rfl _ _ gb574 55 #[.int .i64 t575, .int .i64 t592, .int .i64 t577, .int .i64 t578, .bool t579, .bool t580, .bool t581, .bool t582] (0, 0) _ rfl (bf NB574_585 BK574.out) Try.underlying55 rfl (by kernel_rfl)) rfl ?_
   exact ⟨rt, si HI0.out, bi HB.out, kp HK.out⟩
  ·rw [if_neg c17] at H
   have c17b0 : (t586 == 1) = false := beq_eq_false_iff_ne.mpr c17
   have c17b1 : (t586 != 1) = true := bne_iff_ne.mpr c17
   by_cases c30 : t586 = 2
   ·rw [if_pos c30] at H
    have c30b0 : (t586 == 2) = true := beq_iff_eq.mpr c30
    have c30b1 : (t586 != 2) = false := bne_eq_false_iff_eq.mpr c30
    clear c30
    replace H := Option.bind_eq_some_iff.mp H
    obtain ⟨⟨t595, t596, t597⟩, A310, H⟩ := H
    replace H : (some (t575, t576, t595, t578, t579, t580, t581, t582, t596, t597)) = some (r1, r2, r3, r4, r5, r6, r7, r8, r9, r10) := H
    have A31 := Aside0.mk A310
    clear A310
    simp only [Option.some.injEq, Prod.mk.injEq] at H
    obtain ⟨rfl, rfl, rfl, rfl, rfl, rfl, rfl, rfl, rfl, rfl⟩ := H
    go_enter Try.func84, Try.ntmps84
    go_wp2_with (first | ((with_reducible refine gate_dst (N := 2) rfl ?_); refine bx (N := 2) (cs := #[.int .i64 0, .int .i64 0, .int .i64 0, .int .i64 0, .bool false, .bool false, .bool false, .bool false]) (t := 55) ?_; intro gb574 hg w32 hbox hb; have n0_ := Aside0.mk (IsS107.below (si HI0.out) hb); have n1_ := Aside0.mk (KeepBut.trans (kp HK.out) (KeepBut.of_below hb g none) (.inl rfl)); have n2_ := Aside0.mk (below_step (bi HB.out) hb); have n3_ := Aside0.mk (hbox); have n4_ := Aside0.mk ((by rw [hg]; exact (keep_size (w := w) (g := g) (row := none) (kp HK.out)) : w.heap.size ≤ gb574)); have n5_ := Aside0.mk ((Nat.le_trans HW0.out (by rw [hg]; exact (keep_size (w := w) (g := g) (row := none) (kp HK.out)) : w.heap.size ≤ gb574) : w0.heap.size ≤ gb574)); have n6_ := Aside0.mk ((by rw [hg]; exact Nat.ne_of_lt (IsS107.lt (show IsS107 w0 _ g s0_0 s0_1 s0_2 from si HI0.out)) : g ≠ gb574)); have n7_ := Aside0.mk ((by rw [hg]; exact Nat.ne_of_gt (IsS107.lt (show IsS107 w0 _ g s0_0 s0_1 s0_2 from si HI0.out)) : gb574 ≠ g)); clear HI0; clear HK; clear HB; have HI0 := n0_; have HK := n1_; have HB := n2_; have BK574 := n3_; have GW574 := n4_; have GE574 := n5_; have NB0_574 := n6_; have NB574_0 := n7_; clear n0_ n1_ n2_ n3_ n4_ n5_ n6_ n7_; clear hb hbox hg) | ((with_reducible refine gate_callee (f := 108) rfl ?_); refine goesM_ (some 5) rfl rfl Try.func108 #[.pointer (some ⟨g, 0, none⟩)] ?_; (with_reducible refine (spec_l5DrawRight.calls g s0_0 s0_1 s0_2 t575 t576 t577 t578 t579 t580 t581 t582 t583 t584 w0 _ ?side1 ?side2 A2.out).mono ?_); (case side1 => exact si HI0.out); (case side2 => exact bi HB.out); rintro e w33 ⟨rfl, hi, hb, hk⟩; refine ⟨_, rfl, ?_⟩; replace BK574 := Aside0.mk (kB hk (kb BK574.out) NB574_0); replace HK := Aside0.mk (KeepBut.trans (kp HK.out) hk (.inl rfl)); replace HB := Aside0.mk (hb); replace HI0 := Aside0.mk (hi); (try clear hb); (try clear hb2); (try clear hk); (try clear hi)) | ((with_reducible refine gate_dst (N := 3) rfl ?_); refine bx (N := 3) (cs := #[.int .i64 0, .int .i64 0, .int .i64 0, .int .i64 0, .bool false, .bool false, .bool false, .bool false]) (t := 55) ?_; intro gb585 hg w34 hbox hb; have n0_ := Aside0.mk (IsS107.below (si HI0.out) hb); have n1_ := Aside0.mk (bb BK574 hb); have n2_ := Aside0.mk (KeepBut.trans (kp HK.out) (KeepBut.of_below hb g none) (.inl rfl)); have n3_ := Aside0.mk (below_step (bi HB.out) hb); have n4_ := Aside0.mk (hbox); have n5_ := Aside0.mk ((by rw [hg]; exact (keep_size (w := w) (g := g) (row := none) (kp HK.out)) : w.heap.size ≤ gb585)); have n6_ := Aside0.mk ((Nat.le_trans HW0.out (by rw [hg]; exact (keep_size (w := w) (g := g) (row := none) (kp HK.out)) : w.heap.size ≤ gb585) : w0.heap.size ≤ gb585)); have n7_ := Aside0.mk ((ga hg BK574.out)); have n8_ := Aside0.mk ((gc hg BK574.out)); have n9_ := Aside0.mk ((by rw [hg]; exact Nat.ne_of_lt (IsS107.lt (show IsS107 w0 _ g s0_0 t583 t584 from si HI0.out)) : g ≠ gb585)); have n10_ := Aside0.mk ((by rw [hg]; exact Nat.ne_of_gt (IsS107.lt (show IsS107 w0 _ g s0_0 t583 t584 from si HI0.out)) : gb585 ≠ g)); clear HI0; clear BK574; clear HK; clear HB; have HI0 := n0_; have BK574 := n1_; have HK := n2_; have HB := n3_; have BK585 := n4_; have GW585 := n5_; have GE585 := n6_; have NB574_585 := n7_; have NB585_574 := n8_; have NB0_585 := n9_; have NB585_0 := n10_; clear n0_ n1_ n2_ n3_ n4_ n5_ n6_ n7_ n8_ n9_ n10_; clear hb hbox hg; have hnb35 := NB585_574.out; have hnc35 := NB574_585.out; have hnb36 := NB585_0.out; have hnc36 := NB0_585.out; obtain ⟨hcz37_0, hcz37_1, hcz37_2, hcz37_3, hcz37_4, hcz37_5, hcz37_6, hcz37_7⟩ := ce8 BK585; have hfz37_0 := blk_frozen BK585.out 0; have hfz37_1 := blk_frozen BK585.out 1; have hfz37_2 := blk_frozen BK585.out 2; have hfz37_3 := blk_frozen BK585.out 3; have hfz37_4 := blk_frozen BK585.out 4; have hfz37_5 := blk_frozen BK585.out 5; have hfz37_6 := blk_frozen BK585.out 6; have hfz37_7 := blk_frozen BK585.out 7) | ((with_reducible refine gate_callee (f := 60) rfl ?_); refine goesM_ (some 7) rfl rfl Try.func60 #[.pointer (some ⟨g, 0, none⟩), .int .i64 25] ?_; (with_reducible refine (spec_l1Below.calls g s0_0 t583 t584 25 t586 t587 t588 w0 _ ?side1 ?side2 A3.out).mono ?_); (case side1 => exact si HI0.out); (case side2 => exact bi HB.out); rintro e w38 ⟨rfl, hi, hb, hk⟩; refine ⟨_, rfl, ?_⟩; replace BK574 := Aside0.mk (kB hk (kf BK574.out) NB574_0); replace BK585 := Aside0.mk (kB hk (o := .cells #[.int .i64 t575, .int .i64 t576, .int .i64 t577, .int .i64 t578, .bool t579, .bool t580, .bool t581, .bool t582] 55 (0, 0)) (bq BK585.out) NB585_0); replace HK := Aside0.mk (KeepBut.trans (kp HK.out) hk (.inl rfl)); replace HB := Aside0.mk (hb); replace HI0 := Aside0.mk (hi); (try clear hb); (try clear hb2); (try clear hk); (try clear hi)) | ((with_reducible refine gate_callee (f := 75) rfl ?_); refine goesM_ (some 21) rfl rfl Try.func75 #[.pointer (some ⟨g, 0, none⟩)] ?_; (with_reducible refine (spec_l1DrawInt.calls g s0_0 t587 t588 t595 t596 t597 w0 _ ?side1 ?side2 A31.out).mono ?_); (case side1 => exact si HI0.out); (case side2 => exact bi HB.out); rintro e w39 ⟨rfl, hi, hb, hk⟩; refine ⟨_, rfl, ?_⟩; replace BK574 := Aside0.mk (kB hk (kb BK574.out) NB574_0); replace BK585 := Aside0.mk (kB hk (kb BK585.out) NB585_0); replace HK := Aside0.mk (KeepBut.trans (kp HK.out) hk (.inl rfl)); replace HB := Aside0.mk (hb); replace HI0 := Aside0.mk (hi); (try clear hb); (try clear hb2); (try clear hk); (try clear hi); obtain ⟨hcz40_0, hcz40_1, hcz40_2, hcz40_3, hcz40_4, hcz40_5, hcz40_6, hcz40_7⟩ := ce8 BK585; obtain ⟨hfz40_0, hfz40_1, hfz40_2, hfz40_3, hfz40_4, hfz40_5, hfz40_6, hfz40_7⟩ := fz8 BK585; have hnb41 := NB574_0.out; have hnc41 := NB0_574.out; obtain ⟨hcz42_0, hcz42_1, hcz42_2, hcz42_3, hcz42_4, hcz42_5, hcz42_6, hcz42_7⟩ := ce8 BK574; have hfz42_0 := blk_frozen BK574.out 0; have hfz42_1 := blk_frozen BK574.out 1; have hfz42_2 := blk_frozen BK574.out 2; have hfz42_3 := blk_frozen BK574.out 3; have hfz42_4 := blk_frozen BK574.out 4; have hfz42_5 := blk_frozen BK574.out 5; have hfz42_6 := blk_frozen BK574.out 6; have hfz42_7 := blk_frozen BK574.out 7))
    refine bodyPost_ret (results_cell_row rfl _ _ gb574 55 #[.int .i64 t575, .int .i64 t576, .int .i64 t595, .int .i64 t578, .bool t579, .bool t580, .bool t581, .bool t582] (0, 0) _ rfl (bf NB574_585 BK574.out) Try.underlying55 rfl (by kernel_rfl)) rfl ?_
    exact ⟨rt, si HI0.out, bi HB.out, kp HK.out⟩
   ·rw [if_neg c30] at H
    have c30b0 : (t586 == 2) = false := beq_eq_false_iff_ne.mpr c30
    have c30b1 : (t586 != 2) = true := bne_iff_ne.mpr c30
    by_cases c43 : t586 = 3
    ·rw [if_pos c43] at H
     have c43b0 : (t586 == 3) = true := beq_iff_eq.mpr c43
     have c43b1 : (t586 != 3) = false := bne_eq_false_iff_eq.mpr c43
     clear c43
     obtain ⟨y598, hy598⟩ : ∃ y_ : List Int, y_ = (([(-1), 65536] : List Int)) := ⟨_, rfl⟩
     replace H : ((spec_l1PickInt.f s0_0 t587 t588 y598).bind fun bt601 => (some (t575, t576, t577, bt601.1, t579, t580, t581, t582, bt601.2.1, bt601.2.2))) = some (r1, r2, r3, r4, r5, r6, r7, r8, r9, r10) := by first | (rw [hy598]; with_reducible exact H) | (have H2_ := (Option.bind_some _ _).symm.trans H; rw [hy598]; with_reducible exact H2_) | (have H2_ := (Option.bind_some _ _).symm.trans H; with_reducible exact H2_) | with_reducible exact H | (rw [hy598]; exact H) | exact H
     have Ny598 := Aside0.mk hy598
     clear hy598
     replace H := Option.bind_eq_some_iff.mp H
     obtain ⟨⟨t601, t602, t603⟩, A440, H⟩ := H
     replace H : (some (t575, t576, t577, t601, t579, t580, t581, t582, t602, t603)) = some (r1, r2, r3, r4, r5, r6, r7, r8, r9, r10) := H
     have A44 := Aside0.mk A440
     clear A440
     simp only [Option.some.injEq, Prod.mk.injEq] at H
     obtain ⟨rfl, rfl, rfl, rfl, rfl, rfl, rfl, rfl, rfl, rfl⟩ := H
     go_enter Try.func84, Try.ntmps84
     go_wp2_with (first | ((with_reducible refine gate_dst (N := 2) rfl ?_); refine bx (N := 2) (cs := #[.int .i64 0, .int .i64 0, .int .i64 0, .int .i64 0, .bool false, .bool false, .bool false, .bool false]) (t := 55) ?_; intro gb574 hg w45 hbox hb; have n0_ := Aside0.mk (IsS107.below (si HI0.out) hb); have n1_ := Aside0.mk (KeepBut.trans (kp HK.out) (KeepBut.of_below hb g none) (.inl rfl)); have n2_ := Aside0.mk (below_step (bi HB.out) hb); have n3_ := Aside0.mk (hbox); have n4_ := Aside0.mk ((by rw [hg]; exact (keep_size (w := w) (g := g) (row := none) (kp HK.out)) : w.heap.size ≤ gb574)); have n5_ := Aside0.mk ((Nat.le_trans HW0.out (by rw [hg]; exact (keep_size (w := w) (g := g) (row := none) (kp HK.out)) : w.heap.size ≤ gb574) : w0.heap.size ≤ gb574)); have n6_ := Aside0.mk ((by rw [hg]; exact Nat.ne_of_lt (IsS107.lt (show IsS107 w0 _ g s0_0 s0_1 s0_2 from si HI0.out)) : g ≠ gb574)); have n7_ := Aside0.mk ((by rw [hg]; exact Nat.ne_of_gt (IsS107.lt (show IsS107 w0 _ g s0_0 s0_1 s0_2 from si HI0.out)) : gb574 ≠ g)); clear HI0; clear HK; clear HB; have HI0 := n0_; have HK := n1_; have HB := n2_; have BK574 := n3_; have GW574 := n4_; have GE574 := n5_; have NB0_574 := n6_; have NB574_0 := n7_; clear n0_ n1_ n2_ n3_ n4_ n5_ n6_ n7_; clear hb hbox hg) | ((with_reducible refine gate_callee (f := 108) rfl ?_); refine goesM_ (some 5) rfl rfl Try.func108 #[.pointer (some ⟨g, 0, none⟩)] ?_; (with_reducible refine (spec_l5DrawRight.calls g s0_0 s0_1 s0_2 t575 t576 t577 t578 t579 t580 t581 t582 t583 t584 w0 _ ?side1 ?side2 A2.out).mono ?_); (case side1 => exact si HI0.out); (case side2 => exact bi HB.out); rintro e w46 ⟨rfl, hi, hb, hk⟩; refine ⟨_, rfl, ?_⟩; replace BK574 := Aside0.mk (kB hk (kb BK574.out) NB574_0); replace HK := Aside0.mk (KeepBut.trans (kp HK.out) hk (.inl rfl)); replace HB := Aside0.mk (hb); replace HI0 := Aside0.mk (hi); (try clear hb); (try clear hb2); (try clear hk); (try clear hi)) | ((with_reducible refine gate_dst (N := 3) rfl ?_); refine bx (N := 3) (cs := #[.int .i64 0, .int .i64 0, .int .i64 0, .int .i64 0, .bool false, .bool false, .bool false, .bool false]) (t := 55) ?_; intro gb585 hg w47 hbox hb; have n0_ := Aside0.mk (IsS107.below (si HI0.out) hb); have n1_ := Aside0.mk (bb BK574 hb); have n2_ := Aside0.mk (KeepBut.trans (kp HK.out) (KeepBut.of_below hb g none) (.inl rfl)); have n3_ := Aside0.mk (below_step (bi HB.out) hb); have n4_ := Aside0.mk (hbox); have n5_ := Aside0.mk ((by rw [hg]; exact (keep_size (w := w) (g := g) (row := none) (kp HK.out)) : w.heap.size ≤ gb585)); have n6_ := Aside0.mk ((Nat.le_trans HW0.out (by rw [hg]; exact (keep_size (w := w) (g := g) (row := none) (kp HK.out)) : w.heap.size ≤ gb585) : w0.heap.size ≤ gb585)); have n7_ := Aside0.mk ((ga hg BK574.out)); have n8_ := Aside0.mk ((gc hg BK574.out)); have n9_ := Aside0.mk ((by rw [hg]; exact Nat.ne_of_lt (IsS107.lt (show IsS107 w0 _ g s0_0 t583 t584 from si HI0.out)) : g ≠ gb585)); have n10_ := Aside0.mk ((by rw [hg]; exact Nat.ne_of_gt (IsS107.lt (show IsS107 w0 _ g s0_0 t583 t584 from si HI0.out)) : gb585 ≠ g)); clear HI0; clear BK574; clear HK; clear HB; have HI0 := n0_; have BK574 := n1_; have HK := n2_; have HB := n3_; have BK585 := n4_; have GW585 := n5_; have GE585 := n6_; have NB574_585 := n7_; have NB585_574 := n8_; have NB0_585 := n9_; have NB585_0 := n10_; clear n0_ n1_ n2_ n3_ n4_ n5_ n6_ n7_ n8_ n9_ n10_; clear hb hbox hg; have hnb48 := NB585_574.out; have hnc48 := NB574_585.out; have hnb49 := NB585_0.out; have hnc49 := NB0_585.out; obtain ⟨hcz50_0, hcz50_1, hcz50_2, hcz50_3, hcz50_4, hcz50_5, hcz50_6, hcz50_7⟩ := ce8 BK585; have hfz50_0 := blk_frozen BK585.out 0; have hfz50_1 := blk_frozen BK585.out 1; have hfz50_2 := blk_frozen BK585.out 2; have hfz50_3 := blk_frozen BK585.out 3; have hfz50_4 := blk_frozen BK585.out 4; have hfz50_5 := blk_frozen BK585.out 5; have hfz50_6 := blk_frozen BK585.out 6; have hfz50_7 := blk_frozen BK585.out 7) | ((with_reducible refine gate_callee (f := 60) rfl ?_); refine goesM_ (some 7) rfl rfl Try.func60 #[.pointer (some ⟨g, 0, none⟩), .int .i64 25] ?_; (with_reducible refine (spec_l1Below.calls g s0_0 t583 t584 25 t586 t587 t588 w0 _ ?side1 ?side2 A3.out).mono ?_); (case side1 => exact si HI0.out); (case side2 => exact bi HB.out); rintro e w51 ⟨rfl, hi, hb, hk⟩; refine ⟨_, rfl, ?_⟩; replace BK574 := Aside0.mk (kB hk (kf BK574.out) NB574_0); replace BK585 := Aside0.mk (kB hk (o := .cells #[.int .i64 t575, .int .i64 t576, .int .i64 t577, .int .i64 t578, .bool t579, .bool t580, .bool t581, .bool t582] 55 (0, 0)) (bq BK585.out) NB585_0); replace HK := Aside0.mk (KeepBut.trans (kp HK.out) hk (.inl rfl)); replace HB := Aside0.mk (hb); replace HI0 := Aside0.mk (hi); (try clear hb); (try clear hb2); (try clear hk); (try clear hi)) | ((with_reducible refine gate_dst (N := 26) rfl ?_); refine Kd.R_lit (Kd.int .i64) _ 3 ?hg (N := 26) ?hd (xs := ([(-1), 65536] : List Int)) (inner := [.int .i64 (-1), .int .i64 65536]) (ok := fun _ => True) (okp := fun _ => True) ?hr ?hp (fun _ hk => hk) trivial (Below.refl _ _) (Nat.le_refl _) (by simp) ?_; (case hd => rfl); (case hg => rfl); (case hr => first | (go_simp; done) | (go_simp; rfl)); (case hp => exact (reI _)); intro v599 w52 ho53 hb hg_ hnew_; clear hg_ hnew_; (first | rw [← Ny598.out] at ho53 | (simp only [Int.reduceToNat] at ho53; rw [← Ny598.out] at ho53)); have HO600 := Aside0.mk (Kd.R_lower ho53 (keep_size (w := w) (g := g) (row := none) (kp HK.out))); replace HI0 := Aside0.mk (IsS107.below (si HI0.out) hb); replace BK574 := Aside0.mk (bb BK574 hb); replace BK585 := Aside0.mk (bb BK585 hb); replace HK := Aside0.mk (KeepBut.trans (kp HK.out) (KeepBut.of_below hb g none) (.inl rfl)); replace HB := Aside0.mk (below_step (bi HB.out) hb); clear hb ho53; obtain ⟨Ao54, co54, eo54⟩ := Kd.R_slice HO600.out; subst eo54) | ((with_reducible refine gate_callee (f := 70) rfl ?_); refine goesM_ (some 27) rfl rfl Try.func70 #[.pointer (some ⟨g, 0, none⟩), .slice Ao54 y598.length co54] ?_; (with_reducible refine (spec_l1PickInt.calls g s0_0 t587 t588 _ _ y598 t601 t602 t603 w0 _ ?side1 ?side2 ?side3 ?side4 ?side5 A44.out).mono ?_); (case side1 => exact si HI0.out); (case side2 => exact bi HB.out); (case side3 => exact kc (Kd.R_reads' HO600.out).2.2); (case side4 => exact (Kd.R_reads' HO600.out).2.1); (case side5 => exact far_slice (IsS107.own_ne HI0.out HO600.out (by decide))); rintro e w55 ⟨rfl, hi, hb, hk⟩; refine ⟨_, rfl, ?_⟩; replace BK574 := Aside0.mk (kB hk (kb BK574.out) NB574_0); replace BK585 := Aside0.mk (kB hk (kb BK585.out) NB585_0); replace HO600 := Aside0.mk (Kd.R_mono (Kd.R_keep (IsS107.apart (show IsS107 w0 _ g s0_0 t587 t588 from si HI0.out) (kr HO600.out) (by decide)) hk (fun _ h => h.2)) (fun _ h => h.1)); replace HK := Aside0.mk (KeepBut.trans (kp HK.out) hk (.inl rfl)); replace HB := Aside0.mk (hb); replace HI0 := Aside0.mk (hi); (try clear hb); (try clear hb2); (try clear hk); (try clear hi); obtain ⟨hcz56_0, hcz56_1, hcz56_2, hcz56_3, hcz56_4, hcz56_5, hcz56_6, hcz56_7⟩ := ce8 BK585; obtain ⟨hfz56_0, hfz56_1, hfz56_2, hfz56_3, hfz56_4, hfz56_5, hfz56_6, hfz56_7⟩ := fz8 BK585; have hnb57 := NB574_0.out; have hnc57 := NB0_574.out; obtain ⟨hcz58_0, hcz58_1, hcz58_2, hcz58_3, hcz58_4, hcz58_5, hcz58_6, hcz58_7⟩ := ce8 BK574; have hfz58_0 := blk_frozen BK574.out 0; have hfz58_1 := blk_frozen BK574.out 1; have hfz58_2 := blk_frozen BK574.out 2; have hfz58_3 := blk_frozen BK574.out 3; have hfz58_4 := blk_frozen BK574.out 4; have hfz58_5 := blk_frozen BK574.out 5; have hfz58_6 := blk_frozen BK574.out 6; have hfz58_7 := blk_frozen BK574.out 7))
     refine bodyPost_ret (results_cell_row rfl _ _ gb574 55 #[.int .i64 t575, .int .i64 t576, .int .i64 t577, .int .i64 t601, .bool t579, .bool t580, .bool t581, .bool t582] (0, 0) _ rfl (bf NB574_585 BK574.out) Try.underlying55 rfl (by kernel_rfl)) rfl ?_
     exact ⟨rt, si HI0.out, bi HB.out, kp HK.out⟩
    ·rw [if_neg c43] at H
     have c43b0 : (t586 == 3) = false := beq_eq_false_iff_ne.mpr c43
     have c43b1 : (t586 != 3) = true := bne_iff_ne.mpr c43
     simp only [Option.some.injEq, Prod.mk.injEq] at H
     obtain ⟨rfl, rfl, rfl, rfl, rfl, rfl, rfl, rfl, rfl, rfl⟩ := H
     go_enter Try.func84, Try.ntmps84
     go_wp2_with (first | ((with_reducible refine gate_dst (N := 2) rfl ?_); refine bx (N := 2) (cs := #[.int .i64 0, .int .i64 0, .int .i64 0, .int .i64 0, .bool false, .bool false, .bool false, .bool false]) (t := 55) ?_; intro gb574 hg w59 hbox hb; have n0_ := Aside0.mk (IsS107.below (si HI0.out) hb); have n1_ := Aside0.mk (KeepBut.trans (kp HK.out) (KeepBut.of_below hb g none) (.inl rfl)); have n2_ := Aside0.mk (below_step (bi HB.out) hb); have n3_ := Aside0.mk (hbox); have n4_ := Aside0.mk ((by rw [hg]; exact (keep_size (w := w) (g := g) (row := none) (kp HK.out)) : w.heap.size ≤ gb574)); have n5_ := Aside0.mk ((Nat.le_trans HW0.out (by rw [hg]; exact (keep_size (w := w) (g := g) (row := none) (kp HK.out)) : w.heap.size ≤ gb574) : w0.heap.size ≤ gb574)); have n6_ := Aside0.mk ((by rw [hg]; exact Nat.ne_of_lt (IsS107.lt (show IsS107 w0 _ g s0_0 s0_1 s0_2 from si HI0.out)) : g ≠ gb574)); have n7_ := Aside0.mk ((by rw [hg]; exact Nat.ne_of_gt (IsS107.lt (show IsS107 w0 _ g s0_0 s0_1 s0_2 from si HI0.out)) : gb574 ≠ g)); clear HI0; clear HK; clear HB; have HI0 := n0_; have HK := n1_; have HB := n2_; have BK574 := n3_; have GW574 := n4_; have GE574 := n5_; have NB0_574 := n6_; have NB574_0 := n7_; clear n0_ n1_ n2_ n3_ n4_ n5_ n6_ n7_; clear hb hbox hg) | ((with_reducible refine gate_callee (f := 108) rfl ?_); refine goesM_ (some 5) rfl rfl Try.func108 #[.pointer (some ⟨g, 0, none⟩)] ?_; (with_reducible refine (spec_l5DrawRight.calls g s0_0 s0_1 s0_2 t575 t576 t577 t578 t579 t580 t581 t582 t583 t584 w0 _ ?side1 ?side2 A2.out).mono ?_); (case side1 => exact si HI0.out); (case side2 => exact bi HB.out); rintro e w60 ⟨rfl, hi, hb, hk⟩; refine ⟨_, rfl, ?_⟩; replace BK574 := Aside0.mk (kB hk (kb BK574.out) NB574_0); replace HK := Aside0.mk (KeepBut.trans (kp HK.out) hk (.inl rfl)); replace HB := Aside0.mk (hb); replace HI0 := Aside0.mk (hi); (try clear hb); (try clear hb2); (try clear hk); (try clear hi)) | ((with_reducible refine gate_dst (N := 3) rfl ?_); refine bx (N := 3) (cs := #[.int .i64 0, .int .i64 0, .int .i64 0, .int .i64 0, .bool false, .bool false, .bool false, .bool false]) (t := 55) ?_; intro gb585 hg w61 hbox hb; have n0_ := Aside0.mk (IsS107.below (si HI0.out) hb); have n1_ := Aside0.mk (bb BK574 hb); have n2_ := Aside0.mk (KeepBut.trans (kp HK.out) (KeepBut.of_below hb g none) (.inl rfl)); have n3_ := Aside0.mk (below_step (bi HB.out) hb); have n4_ := Aside0.mk (hbox); have n5_ := Aside0.mk ((by rw [hg]; exact (keep_size (w := w) (g := g) (row := none) (kp HK.out)) : w.heap.size ≤ gb585)); have n6_ := Aside0.mk ((Nat.le_trans HW0.out (by rw [hg]; exact (keep_size (w := w) (g := g) (row := none) (kp HK.out)) : w.heap.size ≤ gb585) : w0.heap.size ≤ gb585)); have n7_ := Aside0.mk ((ga hg BK574.out)); have n8_ := Aside0.mk ((gc hg BK574.out)); have n9_ := Aside0.mk ((by rw [hg]; exact Nat.ne_of_lt (IsS107.lt (show IsS107 w0 _ g s0_0 t583 t584 from si HI0.out)) : g ≠ gb585)); have n10_ := Aside0.mk ((by rw [hg]; exact Nat.ne_of_gt (IsS107.lt (show IsS107 w0 _ g s0_0 t583 t584 from si HI0.out)) : gb585 ≠ g)); clear HI0; clear BK574; clear HK; clear HB; have HI0 := n0_; have BK574 := n1_; have HK := n2_; have HB := n3_; have BK585 := n4_; have GW585 := n5_; have GE585 := n6_; have NB574_585 := n7_; have NB585_574 := n8_; have NB0_585 := n9_; have NB585_0 := n10_; clear n0_ n1_ n2_ n3_ n4_ n5_ n6_ n7_ n8_ n9_ n10_; clear hb hbox hg; have hnb62 := NB585_574.out; have hnc62 := NB574_585.out; have hnb63 := NB585_0.out; have hnc63 := NB0_585.out; obtain ⟨hcz64_0, hcz64_1, hcz64_2, hcz64_3, hcz64_4, hcz64_5, hcz64_6, hcz64_7⟩ := ce8 BK585; have hfz64_0 := blk_frozen BK585.out 0; have hfz64_1 := blk_frozen BK585.out 1; have hfz64_2 := blk_frozen BK585.out 2; have hfz64_3 := blk_frozen BK585.out 3; have hfz64_4 := blk_frozen BK585.out 4; have hfz64_5 := blk_frozen BK585.out 5; have hfz64_6 := blk_frozen BK585.out 6; have hfz64_7 := blk_frozen BK585.out 7) | ((with_reducible refine gate_callee (f := 60) rfl ?_); refine goesM_ (some 7) rfl rfl Try.func60 #[.pointer (some ⟨g, 0, none⟩), .int .i64 25] ?_; (with_reducible refine (spec_l1Below.calls g s0_0 t583 t584 25 t586 t587 t588 w0 _ ?side1 ?side2 A3.out).mono ?_); (case side1 => exact si HI0.out); (case side2 => exact bi HB.out); rintro e w65 ⟨rfl, hi, hb, hk⟩; refine ⟨_, rfl, ?_⟩; replace BK574 := Aside0.mk (kB hk (kf BK574.out) NB574_0); replace BK585 := Aside0.mk (kB hk (o := .cells #[.int .i64 t575, .int .i64 t576, .int .i64 t577, .int .i64 t578, .bool t579, .bool t580, .bool t581, .bool t582] 55 (0, 0)) (bq BK585.out) NB585_0); replace HK := Aside0.mk (KeepBut.trans (kp HK.out) hk (.inl rfl)); replace HB := Aside0.mk (hb); replace HI0 := Aside0.mk (hi); (try clear hb); (try clear hb2); (try clear hk); (try clear hi); obtain ⟨hcz66_0, hcz66_1, hcz66_2, hcz66_3, hcz66_4, hcz66_5, hcz66_6, hcz66_7⟩ := ce8 BK585; obtain ⟨hfz66_0, hfz66_1, hfz66_2, hfz66_3, hfz66_4, hfz66_5, hfz66_6, hfz66_7⟩ := fz8 BK585; have hnb67 := NB574_0.out; have hnc67 := NB0_574.out; obtain ⟨hcz68_0, hcz68_1, hcz68_2, hcz68_3, hcz68_4, hcz68_5, hcz68_6, hcz68_7⟩ := ce8 BK574; have hfz68_0 := blk_frozen BK574.out 0; have hfz68_1 := blk_frozen BK574.out 1; have hfz68_2 := blk_frozen BK574.out 2; have hfz68_3 := blk_frozen BK574.out 3; have hfz68_4 := blk_frozen BK574.out 4; have hfz68_5 := blk_frozen BK574.out 5; have hfz68_6 := blk_frozen BK574.out 6; have hfz68_7 := blk_frozen BK574.out 7))
     refine bodyPost_ret (results_cell_row rfl _ _ gb574 55 #[.int .i64 t575, .int .i64 t576, .int .i64 t577, .int .i64 t578, .bool t579, .bool t580, .bool t581, .bool t582] (0, 0) _ rfl (bq BK574.out) Try.underlying55 rfl (by kernel_rfl)) rfl ?_
     exact ⟨rt, si HI0.out, bi HB.out, kp HK.out⟩

/-! ### spec_DrawEnter: function 53 -/
def spec_DrawEnter.f (k : Nat) (l0 : List Int) : Option ((List (List Int)) × List Int × Int × Int × Int × Int × Int × Bool × Bool × Bool × Bool × Int) := (spec_l1New.f k l0).bind fun bt607 => ((spec_l6Draw.f k bt607.1 bt607.2.1 bt607.2.2).bind fun bt611 => ((spec_l5Draw.f bt607.1 bt611.2.2.2.1 bt611.2.2.2.2).bind fun bt622 => ((spec_l1PickInt.f bt607.1 bt622.2.2.2.2.2.2.2.2.1 bt622.2.2.2.2.2.2.2.2.2 (([65530, 65534, 65532, 0, 65535] : List Int))).bind fun bt636 => (some (bt611.1, bt611.2.1, bt611.2.2.1, bt622.1, bt622.2.1, bt622.2.2.1, bt622.2.2.2.1, bt622.2.2.2.2.1, bt622.2.2.2.2.2.1, bt622.2.2.2.2.2.2.1, bt622.2.2.2.2.2.2.2.1, bt636.1)))))
def spec_DrawEnter.T4 : Bool × List (List Nat × List Nat) := (true, [([], []), ([], []), ([], []), ([], []), ([], []), ([3, 4], [3, 4]), ([0, 5, 0], [0]), ([1, 6, 0, 1, 6], [1]), ([2, 7, 0, 1, 2, 6, 7], [2]), ([5, 8, 0, 1, 2, 3, 4, 5, 6, 7, 8], [5])])
def spec_DrawEnter.B4 : List Nat := [0, 0, 0, 0, 0, 24, 57, 123, 255, 511]
theorem spec_DrawEnter.tab4 : rtab .any (opsOf Try.f53 4) = spec_DrawEnter.T4 := by kernel_rfl
theorem spec_DrawEnter.bits4 : waitsOk spec_DrawEnter.T4.2 spec_DrawEnter.B4 = true := by kernel_rfl
set_option maxHeartbeats 8000000 in
set_option maxRecDepth 100000 in
theorem spec_DrawEnter.calls (k : Nat) (A0 : Option Addr) (c0 : Nat) (l0 : List Int) (r1 : List (List Int)) (r2 : List Int) (r3 : Int) (r4 : Int) (r5 : Int) (r6 : Int) (r7 : Int) (r8 : Bool) (r9 : Bool) (r10 : Bool) (r11 : Bool) (r12 : Int) (w : World) (hr0 : Kd.C (Kd.int .u8) w A0 l0.length l0) (hc0 : l0.length ≤ c0) (h : spec_DrawEnter.f k l0 = some (r1, r2, r3, r4, r5, r6, r7, r8, r9, r10, r11, r12)) :
  Calls Try.prog 53 #[.slice A0 l0.length c0] w fun e w' => ∃ v0_ v1_ : Value, e = .returned (.tuple #[.agg #[v0_], .agg #[v1_, .int .i64 r3], .agg #[.int .i64 r4, .int .i64 r5, .int .i64 r6, .int .i64 r7, .bool r8, .bool r9, .bool r10, .bool r11], .int .i64 r12]) ∧ Kd.S (cutK 3 (Kd.int .i64)) 30 w' w.heap.size (fun k_ => some k_ ≠ (v1_ : Value).ownBlock) v0_ r1 ∧ Kd.Q (Kd.int .i64) 3 w' w.heap.size (fun _ => True) v1_ r2 ∧ Below w.heap.size w w' := by
 have hu29 := Try.underlying29
 have hu32 := Try.underlying32
 have hu55 := Try.underlying55
 have HR0 := Aside0.mk hr0
 have HC0 := Aside0.mk hc0
 clear hr0 hc0
 have HB := Aside0.mk (Below.refl w.heap.size w)
 have H : ((spec_l1New.f k l0).bind fun bt607 => ((spec_l6Draw.f k bt607.1 bt607.2.1 bt607.2.2).bind fun bt611 => ((spec_l5Draw.f bt607.1 bt611.2.2.2.1 bt611.2.2.2.2).bind fun bt622 => ((spec_l1PickInt.f bt607.1 bt622.2.2.2.2.2.2.2.2.1 bt622.2.2.2.2.2.2.2.2.2 (([65530, 65534, 65532, 0, 65535] : List Int))).bind fun bt636 => (some (bt611.1, bt611.2.1, bt611.2.2.1, bt622.1, bt622.2.1, bt622.2.2.1, bt622.2.2.2.1, bt622.2.2.2.2.1, bt622.2.2.2.2.2.1, bt622.2.2.2.2.2.2.1, bt622.2.2.2.2.2.2.2.1, bt636.1)))))) = some (r1, r2, r3, r4, r5, r6, r7, r8, r9, r10, r11, r12) := h
 clear h
 replace H := Option.bind_eq_some_iff.mp H
 obtain ⟨⟨t607, t608, t609⟩, A20, H⟩ := H
 replace H : ((spec_l6Draw.f k t607 t608 t609).bind fun bt611 => ((spec_l5Draw.f t607 bt611.2.2.2.1 bt611.2.2.2.2).bind fun bt622 => ((spec_l1PickInt.f t607 bt622.2.2.2.2.2.2.2.2.1 bt622.2.2.2.2.2.2.2.2.2 (([65530, 65534, 65532, 0, 65535] : List Int))).bind fun bt636 => (some (bt611.1, bt611.2.1, bt611.2.2.1, bt622.1, bt622.2.1, bt622.2.2.1, bt622.2.2.2.1, bt622.2.2.2.2.1, bt622.2.2.2.2.2.1, bt622.2.2.2.2.2.2.1, bt622.2.2.2.2.2.2.2.1, bt636.1))))) = some (r1, r2, r3, r4, r5, r6, r7, r8, r9, r10, r11, r12) := H
 have A2 := Aside0.mk A20
 clear A20
 replace H := Option.bind_eq_some_iff.mp H
 obtain ⟨⟨t611, t614, t617, t618, t619⟩, A30, H⟩ := H
 replace H : ((spec_l5Draw.f t607 t618 t619).bind fun bt622 => ((spec_l1PickInt.f t607 bt622.2.2.2.2.2.2.2.2.1 bt622.2.2.2.2.2.2.2.2.2 (([65530, 65534, 65532, 0, 65535] : List Int))).bind fun bt636 => (some (t611, t614, t617, bt622.1, bt622.2.1, bt622.2.2.1, bt622.2.2.2.1, bt622.2.2.2.2.1, bt622.2.2.2.2.2.1, bt622.2.2.2.2.2.2.1, bt622.2.2.2.2.2.2.2.1, bt636.1)))) = some (r1, r2, r3, r4, r5, r6, r7, r8, r9, r10, r11, r12) := H
 have A3 := Aside0.mk A30
 clear A30
 replace H := Option.bind_eq_some_iff.mp H
 obtain ⟨⟨t622, t623, t624, t625, t626, t627, t628, t629, t630, t631⟩, A40, H⟩ := H
 replace H : ((spec_l1PickInt.f t607 t630 t631 (([65530, 65534, 65532, 0, 65535] : List Int))).bind fun bt636 => (some (t611, t614, t617, t622, t623, t624, t625, t626, t627, t628, t629, bt636.1))) = some (r1, r2, r3, r4, r5, r6, r7, r8, r9, r10, r11, r12) := H
 have A4 := Aside0.mk A40
 clear A40
 obtain ⟨y633, hy633⟩ : ∃ y_ : List Int, y_ = (([65530, 65534, 65532, 0, 65535] : List Int)) := ⟨_, rfl⟩
 replace H : ((spec_l1PickInt.f t607 t630 t631 y633).bind fun bt636 => (some (t611, t614, t617, t622, t623, t624, t625, t626, t627, t628, t629, bt636.1))) = some (r1, r2, r3, r4, r5, r6, r7, r8, r9, r10, r11, r12) := by first | (rw [hy633]; with_reducible exact H) | (have H2_ := (Option.bind_some _ _).symm.trans H; rw [hy633]; with_reducible exact H2_) | (have H2_ := (Option.bind_some _ _).symm.trans H; with_reducible exact H2_) | with_reducible exact H | (rw [hy633]; exact H) | exact H
 have Ny633 := Aside0.mk hy633
 clear hy633
 replace H := Option.bind_eq_some_iff.mp H
 obtain ⟨⟨t636, t637, t638⟩, A50, H⟩ := H
 replace H : (some (t611, t614, t617, t622, t623, t624, t625, t626, t627, t628, t629, t636)) = some (r1, r2, r3, r4, r5, r6, r7, r8, r9, r10, r11, r12) := H
 have A5 := Aside0.mk A50
 clear A50
 simp only [Option.some.injEq, Prod.mk.injEq] at H
 obtain ⟨rfl, rfl, rfl, rfl, rfl, rfl, rfl, rfl, rfl, rfl, rfl, rfl⟩ := H
 go_enter Try.func53, Try.ntmps53
 try go_wp2_with (first | ((with_reducible refine gate_dst (N := 2) rfl ?_); refine bx (N := 2) (cs := #[.slice none 0 0]) (t := 29) ?_; intro gb604 hg w6 hbox hb; have BK604 := Aside0.mk (hbox); have GW604 := Aside0.mk ((gs hg (bw HB.out))); have GE604 := Aside0.mk ((gs hg (bw HB.out))); replace HB := Aside0.mk (below_step (bw HB.out) hb); clear hb hbox hg) | ((with_reducible refine gate_dst (N := 3) rfl ?_); refine bx (N := 3) (cs := #[.slice none 0 0, .int .i64 0]) (t := 32) ?_; intro gb605 hg w7 hbox hb; have BK605 := Aside0.mk (hbox); have GW605 := Aside0.mk ((gs hg (bw HB.out))); have GE605 := Aside0.mk ((gs hg (bw HB.out))); replace HB := Aside0.mk (below_step (bw HB.out) hb); have NB604_605 := Aside0.mk ((ga hg BK604.out)); have NB605_604 := Aside0.mk ((gc hg BK604.out)); replace BK604 := Aside0.mk (bb BK604 hb); clear hb hbox hg) | ((with_reducible refine gate_dst (N := 4) rfl ?_); refine bx (N := 4) (cs := #[.int .i64 0, .int .i64 0, .int .i64 0, .int .i64 0, .bool false, .bool false, .bool false, .bool false]) (t := 55) ?_; intro gb606 hg w8 hbox hb; have BK606 := Aside0.mk (hbox); have GW606 := Aside0.mk ((gs hg (bw HB.out))); have GE606 := Aside0.mk ((gs hg (bw HB.out))); replace HB := Aside0.mk (below_step (bw HB.out) hb); have NB604_606 := Aside0.mk ((ga hg BK604.out)); have NB606_604 := Aside0.mk ((gc hg BK604.out)); replace BK604 := Aside0.mk (bb BK604 hb); have NB605_606 := Aside0.mk ((ga hg BK605.out)); have NB606_605 := Aside0.mk ((gc hg BK605.out)); replace BK605 := Aside0.mk (bb BK605 hb); clear hb hbox hg) | ((with_reducible refine gate_callee (f := 57) rfl ?_); refine goesM_ (some 11) rfl rfl Try.func57 #[.slice A0 l0.length c0] ?_; (with_reducible refine (spec_l1New.calls k _ _ l0 t607 t608 t609 w _ ?side1 ?side2 ?side3 A2.out).mono ?_); (case side1 => exact bw HB.out); (case side2 => exact HR0.out); (case side3 => exact HC0.out); rintro e w9 ⟨g610, rfl, hi, hb, hb2⟩; refine ⟨_, rfl, ?_⟩; replace HB := Aside0.mk (hb); have HI610 := Aside0.mk (hi); have NB610_604 := Aside0.mk (IsS107.ne_blk hi (bb BK604 hb2) (by decide)); have NB604_610 := Aside0.mk (Ne.symm (IsS107.ne_blk hi (bb BK604 hb2) (by decide))); replace BK604 := Aside0.mk (bb BK604 hb2); have NB610_605 := Aside0.mk (IsS107.ne_blk hi (bb BK605 hb2) (by decide)); have NB605_610 := Aside0.mk (Ne.symm (IsS107.ne_blk hi (bb BK605 hb2) (by decide))); replace BK605 := Aside0.mk (bb BK605 hb2); have NB610_606 := Aside0.mk (IsS107.ne_blk hi (bb BK606 hb2) (by decide)); have NB606_610 := Aside0.mk (Ne.symm (IsS107.ne_blk hi (bb BK606 hb2) (by decide))); replace BK606 := Aside0.mk (bb BK606 hb2); (try clear hb); (try clear hb2); (try clear hk); (try clear hi)) | ((with_reducible refine gate_callee (f := 62) rfl ?_); refine goesM_ (some 14) rfl rfl Try.func62 #[.pointer (some ⟨g610, 0, none⟩)] ?_; (with_reducible refine (spec_l6Draw.calls k g610 t607 t608 t609 t611 t614 t617 t618 t619 w _ ?side1 ?side2 A3.out).mono ?_); (case side1 => exact si HI610.out); (case side2 => exact bi HB.out); rintro e w10 ⟨v612, v615, rfl, ho0, ho1, hi, hb, hk⟩; refine ⟨_, rfl, ?_⟩; replace BK604 := Aside0.mk (kB hk (kb BK604.out) NB604_610); replace BK605 := Aside0.mk (kB hk (kb BK605.out) NB605_610); replace BK606 := Aside0.mk (kB hk (kb BK606.out) NB606_610); have HO613 := Aside0.mk (Kd.S_lower ho0 (below_size (bi HB.out))); have HO616 := Aside0.mk (Kd.Q_lower ho1 (below_size (bi HB.out))); replace HB := Aside0.mk (hb); replace HI610 := Aside0.mk (hi); (try clear hb); (try clear hb2); (try clear hk); (try clear hi); (try clear ho0); (try clear ho1)) | ((with_reducible refine gate_dst (N := 7) rfl ?_); refine bx (N := 7) (cs := #[.slice none 0 0]) (t := 29) ?_; intro gb620 hg w11 hbox hb; have n0_ := Aside0.mk (Kd.S_below (ks HO613.out) hb); have n1_ := Aside0.mk (Kd.Q_below (kq HO616.out) hb); have n2_ := Aside0.mk (bb BK604 hb); have n3_ := Aside0.mk (bb BK605 hb); have n4_ := Aside0.mk (bb BK606 hb); have n5_ := Aside0.mk (IsS107.below (si HI610.out) hb); have n6_ := Aside0.mk (below_step (bi HB.out) hb); have n7_ := Aside0.mk (hbox); have n8_ := Aside0.mk ((gs hg (bi HB.out))); have n9_ := Aside0.mk ((gs hg (bi HB.out))); have n10_ := Aside0.mk ((ga hg BK604.out)); have n11_ := Aside0.mk ((gc hg BK604.out)); have n12_ := Aside0.mk ((ga hg BK605.out)); have n13_ := Aside0.mk ((gc hg BK605.out)); have n14_ := Aside0.mk ((ga hg BK606.out)); have n15_ := Aside0.mk ((gc hg BK606.out)); have n16_ := Aside0.mk ((by rw [hg]; exact Nat.ne_of_lt (IsS107.lt (show IsS107 w _ g610 t607 t618 t619 from si HI610.out)) : g610 ≠ gb620)); have n17_ := Aside0.mk ((by rw [hg]; exact Nat.ne_of_gt (IsS107.lt (show IsS107 w _ g610 t607 t618 t619 from si HI610.out)) : gb620 ≠ g610)); clear HO613; clear HO616; clear BK604; clear BK605; clear BK606; clear HI610; clear HB; have HO613 := n0_; have HO616 := n1_; have BK604 := n2_; have BK605 := n3_; have BK606 := n4_; have HI610 := n5_; have HB := n6_; have BK620 := n7_; have GW620 := n8_; have GE620 := n9_; have NB604_620 := n10_; have NB620_604 := n11_; have NB605_620 := n12_; have NB620_605 := n13_; have NB606_620 := n14_; have NB620_606 := n15_; have NB610_620 := n16_; have NB620_610 := n17_; clear n0_ n1_ n2_ n3_ n4_ n5_ n6_ n7_ n8_ n9_ n10_ n11_ n12_ n13_ n14_ n15_ n16_ n17_; clear hb hbox hg) | ((with_reducible refine gate_dst (N := 8) rfl ?_); refine bx (N := 8) (cs := #[.slice none 0 0, .int .i64 0]) (t := 32) ?_; intro gb621 hg w12 hbox hb; have n0_ := Aside0.mk (Kd.S_below (ks HO613.out) hb); have n1_ := Aside0.mk (Kd.Q_below (kq HO616.out) hb); have n2_ := Aside0.mk (bb BK604 hb); have n3_ := Aside0.mk (bb BK605 hb); have n4_ := Aside0.mk (bb BK606 hb); have n5_ := Aside0.mk (IsS107.below (si HI610.out) hb); have n6_ := Aside0.mk (bb BK620 hb); have n7_ := Aside0.mk (below_step (bi HB.out) hb); have n8_ := Aside0.mk (hbox); have n9_ := Aside0.mk ((gs hg (bi HB.out))); have n10_ := Aside0.mk ((gs hg (bi HB.out))); have n11_ := Aside0.mk ((ga hg BK604.out)); have n12_ := Aside0.mk ((gc hg BK604.out)); have n13_ := Aside0.mk ((ga hg BK605.out)); have n14_ := Aside0.mk ((gc hg BK605.out)); have n15_ := Aside0.mk ((ga hg BK606.out)); have n16_ := Aside0.mk ((gc hg BK606.out)); have n17_ := Aside0.mk ((ga hg BK620.out)); have n18_ := Aside0.mk ((gc hg BK620.out)); have n19_ := Aside0.mk ((by rw [hg]; exact Nat.ne_of_lt (IsS107.lt (show IsS107 w _ g610 t607 t618 t619 from si HI610.out)) : g610 ≠ gb621)); have n20_ := Aside0.mk ((by rw [hg]; exact Nat.ne_of_gt (IsS107.lt (show IsS107 w _ g610 t607 t618 t619 from si HI610.out)) : gb621 ≠ g610)); clear HO613; clear HO616; clear BK604; clear BK605; clear BK606; clear HI610; clear BK620; clear HB; have HO613 := n0_; have HO616 := n1_; have BK604 := n2_; have BK605 := n3_; have BK606 := n4_; have HI610 := n5_; have BK620 := n6_; have HB := n7_; have BK621 := n8_; have GW621 := n9_; have GE621 := n10_; have NB604_621 := n11_; have NB621_604 := n12_; have NB605_621 := n13_; have NB621_605 := n14_; have NB606_621 := n15_; have NB621_606 := n16_; have NB620_621 := n17_; have NB621_620 := n18_; have NB610_621 := n19_; have NB621_610 := n20_; clear n0_ n1_ n2_ n3_ n4_ n5_ n6_ n7_ n8_ n9_ n10_ n11_ n12_ n13_ n14_ n15_ n16_ n17_ n18_ n19_ n20_; clear hb hbox hg; obtain ⟨Ao13, co13, eo13⟩ := Kd.S_slice HO613.out; subst eo13; have hnb14 := NB620_604.out; have hnc14 := NB604_620.out; have hnb15 := NB620_605.out; have hnc15 := NB605_620.out; have hnb16 := NB620_606.out; have hnc16 := NB606_620.out; have hnb17 := NB620_621.out; have hnc17 := NB621_620.out; have hnb18 := NB620_610.out; have hnc18 := NB610_620.out; have hcz19_0 : w12.cell? ⟨gb620, 0, none⟩ = some (.slice none 0 0) := cl BK620 0; have hfz19_0 := blk_frozen BK620.out 0; obtain ⟨Ao20, co20, eo20, _⟩ := Kd.Q_slice HO616.out; subst eo20; have hnb21 := NB621_604.out; have hnc21 := NB604_621.out; have hnb22 := NB621_605.out; have hnc22 := NB605_621.out; have hnb23 := NB621_606.out; have hnc23 := NB606_621.out; have hnb24 := NB621_610.out; have hnc24 := NB610_621.out; obtain ⟨hcz25_0, hcz25_1⟩ := ce2 BK621; have hfz25_0 := blk_frozen BK621.out 0; have hfz25_1 := blk_frozen BK621.out 1) | ((with_reducible refine gate_callee (f := 84) rfl ?_); refine goesM_ (some 18) rfl rfl Try.func84 #[.pointer (some ⟨g610, 0, none⟩)] ?_; (with_reducible refine (spec_l5Draw.calls g610 t607 t618 t619 t622 t623 t624 t625 t626 t627 t628 t629 t630 t631 w _ ?side1 ?side2 A4.out).mono ?_); (case side1 => exact si HI610.out); (case side2 => exact bi HB.out); rintro e w26 ⟨rfl, hi, hb, hk⟩; refine ⟨_, rfl, ?_⟩; replace BK604 := Aside0.mk (kB hk (kf BK604.out) NB604_610); replace BK605 := Aside0.mk (kB hk (kf BK605.out) NB605_610); replace BK606 := Aside0.mk (kB hk (kf BK606.out) NB606_610); replace HO613 := Aside0.mk (Kd.S_mono (Kd.S_keep (IsS107.apartS (show IsS107 w _ g610 t607 t618 t619 from si HI610.out) (ks ((Kd.S_mono (Kd.S_mono (Kd.S_far (p := ⟨gb621, 1, none⟩) (Kd.S_far (p := ⟨gb621, 0, none⟩) (Kd.S_far (p := ⟨gb620, 0, none⟩) (Kd.S_types (Kd.S_types HO613.out BK620.out (by decide)) BK621.out (by decide)) (fun _ hk => hk.1.2) (.slice Ao13 t611.length co13)) (fun _ hk => hk.2) (.slice Ao20 t614.length co20)) (fun _ hk => hk.2) (.int .i64 t617)) (fun _ h_ => h_.1)) (fun _ h_ => h_.1)))) (by decide)) hk (fun _ h => h.2)) (fun _ h => h.1)); replace HO616 := Aside0.mk (Kd.Q_mono (Kd.Q_keep (IsS107.apartQ (show IsS107 w _ g610 t607 t618 t619 from si HI610.out) (kq ((Kd.Q_mono (Kd.Q_mono (Kd.Q_far (p := ⟨gb621, 1, none⟩) (Kd.Q_far (p := ⟨gb621, 0, none⟩) (Kd.Q_far (p := ⟨gb620, 0, none⟩) (Kd.Q_types (Kd.Q_types HO616.out BK620.out (by decide)) BK621.out (by decide)) (fun _ hk => hk.1.2) (.slice Ao13 t611.length co13)) (fun _ hk => hk.2) (.slice Ao20 t614.length co20)) (fun _ hk => hk.2) (.int .i64 t617)) (fun _ h_ => h_.1)) (fun _ h_ => h_.1)))) (by decide)) hk (fun _ h => h.2)) (fun _ h => h.1)); replace BK620 := Aside0.mk (kB hk (o := .cells #[.slice Ao13 t611.length co13] 29 (0, 0)) (bf NB620_621 BK620.out) NB620_610); replace BK621 := Aside0.mk (kB hk (o := .cells #[.slice Ao20 t614.length co20, .int .i64 t617] 32 (0, 0)) (bf NB621_620 BK621.out) NB621_610); replace HB := Aside0.mk (hb); replace HI610 := Aside0.mk (hi); (try clear hb); (try clear hb2); (try clear hk); (try clear hi)) | ((with_reducible refine gate_dst (N := 9) rfl ?_); refine bx (N := 9) (cs := #[.int .i64 0, .int .i64 0, .int .i64 0, .int .i64 0, .bool false, .bool false, .bool false, .bool false]) (t := 55) ?_; intro gb632 hg w27 hbox hb; have n0_ := Aside0.mk (Kd.S_below (ks HO613.out) hb); have n1_ := Aside0.mk (Kd.Q_below (kq HO616.out) hb); have n2_ := Aside0.mk (bb BK604 hb); have n3_ := Aside0.mk (bb BK605 hb); have n4_ := Aside0.mk (bb BK606 hb); have n5_ := Aside0.mk (IsS107.below (si HI610.out) hb); have n6_ := Aside0.mk (bb BK620 hb); have n7_ := Aside0.mk (bb BK621 hb); have n8_ := Aside0.mk (below_step (bi HB.out) hb); have n9_ := Aside0.mk (hbox); have n10_ := Aside0.mk ((gs hg (bi HB.out))); have n11_ := Aside0.mk ((gs hg (bi HB.out))); have n12_ := Aside0.mk ((ga hg BK604.out)); have n13_ := Aside0.mk ((gc hg BK604.out)); have n14_ := Aside0.mk ((ga hg BK605.out)); have n15_ := Aside0.mk ((gc hg BK605.out)); have n16_ := Aside0.mk ((ga hg BK606.out)); have n17_ := Aside0.mk ((gc hg BK606.out)); have n18_ := Aside0.mk ((ga hg BK620.out)); have n19_ := Aside0.mk ((gc hg BK620.out)); have n20_ := Aside0.mk ((ga hg BK621.out)); have n21_ := Aside0.mk ((gc hg BK621.out)); have n22_ := Aside0.mk ((by rw [hg]; exact Nat.ne_of_lt (IsS107.lt (show IsS107 w _ g610 t607 t630 t631 from si HI610.out)) : g610 ≠ gb632)); have n23_ := Aside0.mk ((by rw [hg]; exact Nat.ne_of_gt (IsS107.lt (show IsS107 w _ g610 t607 t630 t631 from si HI610.out)) : gb632 ≠ g610)); clear HO613; clear HO616; clear BK604; clear BK605; clear BK606; clear HI610; clear BK620; clear BK621; clear HB; have HO613 := n0_; have HO616 := n1_; have BK604 := n2_; have BK605 := n3_; have BK606 := n4_; have HI610 := n5_; have BK620 := n6_; have BK621 := n7_; have HB := n8_; have BK632 := n9_; have GW632 := n10_; have GE632 := n11_; have NB604_632 := n12_; have NB632_604 := n13_; have NB605_632 := n14_; have NB632_605 := n15_; have NB606_632 := n16_; have NB632_606 := n17_; have NB620_632 := n18_; have NB632_620 := n19_; have NB621_632 := n20_; have NB632_621 := n21_; have NB610_632 := n22_; have NB632_610 := n23_; clear n0_ n1_ n2_ n3_ n4_ n5_ n6_ n7_ n8_ n9_ n10_ n11_ n12_ n13_ n14_ n15_ n16_ n17_ n18_ n19_ n20_ n21_ n22_ n23_; clear hb hbox hg; have hnb28 := NB632_604.out; have hnc28 := NB604_632.out; have hnb29 := NB632_605.out; have hnc29 := NB605_632.out; have hnb30 := NB632_606.out; have hnc30 := NB606_632.out; have hnb31 := NB632_620.out; have hnc31 := NB620_632.out; have hnb32 := NB632_621.out; have hnc32 := NB621_632.out; have hnb33 := NB632_610.out; have hnc33 := NB610_632.out; obtain ⟨hcz34_0, hcz34_1, hcz34_2, hcz34_3, hcz34_4, hcz34_5, hcz34_6, hcz34_7⟩ := ce8 BK632; have hfz34_0 := blk_frozen BK632.out 0; have hfz34_1 := blk_frozen BK632.out 1; have hfz34_2 := blk_frozen BK632.out 2; have hfz34_3 := blk_frozen BK632.out 3; have hfz34_4 := blk_frozen BK632.out 4; have hfz34_5 := blk_frozen BK632.out 5; have hfz34_6 := blk_frozen BK632.out 6; have hfz34_7 := blk_frozen BK632.out 7))
 have n0_ : Aside0 (Kd.S (cutK 3 (Kd.int .i64)) 30 ((((((((w27.setCell ⟨gb632, 0, none⟩ (.int .i64 t622)).setCell ⟨gb632, 1, none⟩ (.int .i64 t623)).setCell ⟨gb632, 2, none⟩ (.int .i64 t624)).setCell ⟨gb632, 3, none⟩ (.int .i64 t625)).setCell ⟨gb632, 4, none⟩ (.bool t626)).setCell ⟨gb632, 5, none⟩ (.bool t627)).setCell ⟨gb632, 6, none⟩ (.bool t628)).setCell ⟨gb632, 7, none⟩ (.bool t629)) w.heap.size (fun k_ => some k_ ≠ (.slice Ao20 t614.length co20 : Value).ownBlock) (.slice Ao13 t611.length co13) t611) := ⟨ks (Kd.S_mono (Kd.S_far (p := ⟨gb632, 7, none⟩) (Kd.S_far (p := ⟨gb632, 6, none⟩) (Kd.S_far (p := ⟨gb632, 5, none⟩) (Kd.S_far (p := ⟨gb632, 4, none⟩) (Kd.S_far (p := ⟨gb632, 3, none⟩) (Kd.S_far (p := ⟨gb632, 2, none⟩) (Kd.S_far (p := ⟨gb632, 1, none⟩) (Kd.S_far (p := ⟨gb632, 0, none⟩) (Kd.S_types HO613.out BK632.out (by decide)) (fun _ hk => hk.2) (.int .i64 t622)) (fun _ hk => hk.2) (.int .i64 t623)) (fun _ hk => hk.2) (.int .i64 t624)) (fun _ hk => hk.2) (.int .i64 t625)) (fun _ hk => hk.2) (.bool t626)) (fun _ hk => hk.2) (.bool t627)) (fun _ hk => hk.2) (.bool t628)) (fun _ hk => hk.2) (.bool t629)) (fun _ hk => hk.1))⟩
 have n1_ : Aside0 (Kd.Q (Kd.int .i64) 3 ((((((((w27.setCell ⟨gb632, 0, none⟩ (.int .i64 t622)).setCell ⟨gb632, 1, none⟩ (.int .i64 t623)).setCell ⟨gb632, 2, none⟩ (.int .i64 t624)).setCell ⟨gb632, 3, none⟩ (.int .i64 t625)).setCell ⟨gb632, 4, none⟩ (.bool t626)).setCell ⟨gb632, 5, none⟩ (.bool t627)).setCell ⟨gb632, 6, none⟩ (.bool t628)).setCell ⟨gb632, 7, none⟩ (.bool t629)) w.heap.size (fun _ => True) (.slice Ao20 t614.length co20) t614) := ⟨kq (Kd.Q_mono (Kd.Q_far (p := ⟨gb632, 7, none⟩) (Kd.Q_far (p := ⟨gb632, 6, none⟩) (Kd.Q_far (p := ⟨gb632, 5, none⟩) (Kd.Q_far (p := ⟨gb632, 4, none⟩) (Kd.Q_far (p := ⟨gb632, 3, none⟩) (Kd.Q_far (p := ⟨gb632, 2, none⟩) (Kd.Q_far (p := ⟨gb632, 1, none⟩) (Kd.Q_far (p := ⟨gb632, 0, none⟩) (Kd.Q_types HO616.out BK632.out (by decide)) (fun _ hk => hk.2) (.int .i64 t622)) (fun _ hk => hk.2) (.int .i64 t623)) (fun _ hk => hk.2) (.int .i64 t624)) (fun _ hk => hk.2) (.int .i64 t625)) (fun _ hk => hk.2) (.bool t626)) (fun _ hk => hk.2) (.bool t627)) (fun _ hk => hk.2) (.bool t628)) (fun _ hk => hk.2) (.bool t629)) (fun _ hk => trivial))⟩
 have n2_ : Aside0 (((((((((w27.setCell ⟨gb632, 0, none⟩ (.int .i64 t622)).setCell ⟨gb632, 1, none⟩ (.int .i64 t623)).setCell ⟨gb632, 2, none⟩ (.int .i64 t624)).setCell ⟨gb632, 3, none⟩ (.int .i64 t625)).setCell ⟨gb632, 4, none⟩ (.bool t626)).setCell ⟨gb632, 5, none⟩ (.bool t627)).setCell ⟨gb632, 6, none⟩ (.bool t628)).setCell ⟨gb632, 7, none⟩ (.bool t629)).heap[gb604]? = some (.cells #[.slice none 0 0] 29 (0, 0))) := ⟨kf BK604.out⟩
 have n3_ : Aside0 (((((((((w27.setCell ⟨gb632, 0, none⟩ (.int .i64 t622)).setCell ⟨gb632, 1, none⟩ (.int .i64 t623)).setCell ⟨gb632, 2, none⟩ (.int .i64 t624)).setCell ⟨gb632, 3, none⟩ (.int .i64 t625)).setCell ⟨gb632, 4, none⟩ (.bool t626)).setCell ⟨gb632, 5, none⟩ (.bool t627)).setCell ⟨gb632, 6, none⟩ (.bool t628)).setCell ⟨gb632, 7, none⟩ (.bool t629)).heap[gb605]? = some (.cells #[.slice none 0 0, .int .i64 0] 32 (0, 0))) := ⟨kf BK605.out⟩
 have n4_ : Aside0 (((((((((w27.setCell ⟨gb632, 0, none⟩ (.int .i64 t622)).setCell ⟨gb632, 1, none⟩ (.int .i64 t623)).setCell ⟨gb632, 2, none⟩ (.int .i64 t624)).setCell ⟨gb632, 3, none⟩ (.int .i64 t625)).setCell ⟨gb632, 4, none⟩ (.bool t626)).setCell ⟨gb632, 5, none⟩ (.bool t627)).setCell ⟨gb632, 6, none⟩ (.bool t628)).setCell ⟨gb632, 7, none⟩ (.bool t629)).heap[gb606]? = some (.cells #[.int .i64 0, .int .i64 0, .int .i64 0, .int .i64 0, .bool false, .bool false, .bool false, .bool false] 55 (0, 0))) := ⟨kf BK606.out⟩
 have n5_ : Aside0 (((((((((w27.setCell ⟨gb632, 0, none⟩ (.int .i64 t622)).setCell ⟨gb632, 1, none⟩ (.int .i64 t623)).setCell ⟨gb632, 2, none⟩ (.int .i64 t624)).setCell ⟨gb632, 3, none⟩ (.int .i64 t625)).setCell ⟨gb632, 4, none⟩ (.bool t626)).setCell ⟨gb632, 5, none⟩ (.bool t627)).setCell ⟨gb632, 6, none⟩ (.bool t628)).setCell ⟨gb632, 7, none⟩ (.bool t629)).heap[gb620]? = some (.cells #[.slice Ao13 t611.length co13] 29 (0, 0))) := ⟨kf BK620.out⟩
 have n6_ : Aside0 (((((((((w27.setCell ⟨gb632, 0, none⟩ (.int .i64 t622)).setCell ⟨gb632, 1, none⟩ (.int .i64 t623)).setCell ⟨gb632, 2, none⟩ (.int .i64 t624)).setCell ⟨gb632, 3, none⟩ (.int .i64 t625)).setCell ⟨gb632, 4, none⟩ (.bool t626)).setCell ⟨gb632, 5, none⟩ (.bool t627)).setCell ⟨gb632, 6, none⟩ (.bool t628)).setCell ⟨gb632, 7, none⟩ (.bool t629)).heap[gb621]? = some (.cells #[.slice Ao20 t614.length co20, .int .i64 t617] 32 (0, 0))) := ⟨kf BK621.out⟩
 have n7_ : Aside0 (((((((((w27.setCell ⟨gb632, 0, none⟩ (.int .i64 t622)).setCell ⟨gb632, 1, none⟩ (.int .i64 t623)).setCell ⟨gb632, 2, none⟩ (.int .i64 t624)).setCell ⟨gb632, 3, none⟩ (.int .i64 t625)).setCell ⟨gb632, 4, none⟩ (.bool t626)).setCell ⟨gb632, 5, none⟩ (.bool t627)).setCell ⟨gb632, 6, none⟩ (.bool t628)).setCell ⟨gb632, 7, none⟩ (.bool t629)).heap[gb632]? = some (.cells #[.int .i64 t622, .int .i64 t623, .int .i64 t624, .int .i64 t625, .bool t626, .bool t627, .bool t628, .bool t629] 55 (0, 0))) := ⟨bq BK632.out⟩
 have n8_ : Aside0 (IsS107 w ((((((((w27.setCell ⟨gb632, 0, none⟩ (.int .i64 t622)).setCell ⟨gb632, 1, none⟩ (.int .i64 t623)).setCell ⟨gb632, 2, none⟩ (.int .i64 t624)).setCell ⟨gb632, 3, none⟩ (.int .i64 t625)).setCell ⟨gb632, 4, none⟩ (.bool t626)).setCell ⟨gb632, 5, none⟩ (.bool t627)).setCell ⟨gb632, 6, none⟩ (.bool t628)).setCell ⟨gb632, 7, none⟩ (.bool t629)) g610 t607 t630 t631) := ⟨si HI610.out⟩
 have n9_ : Aside0 (Below w.heap.size w ((((((((w27.setCell ⟨gb632, 0, none⟩ (.int .i64 t622)).setCell ⟨gb632, 1, none⟩ (.int .i64 t623)).setCell ⟨gb632, 2, none⟩ (.int .i64 t624)).setCell ⟨gb632, 3, none⟩ (.int .i64 t625)).setCell ⟨gb632, 4, none⟩ (.bool t626)).setCell ⟨gb632, 5, none⟩ (.bool t627)).setCell ⟨gb632, 6, none⟩ (.bool t628)).setCell ⟨gb632, 7, none⟩ (.bool t629))) := ⟨bi HB.out⟩
 (try clear HO613); (try clear HO616); (try clear BK604); (try clear BK605); (try clear BK606); (try clear BK620); (try clear BK621); (try clear BK632); (try clear HI610); (try clear HB)
 generalize ((((((((w27.setCell ⟨gb632, 0, none⟩ (.int .i64 t622)).setCell ⟨gb632, 1, none⟩ (.int .i64 t623)).setCell ⟨gb632, 2, none⟩ (.int .i64 t624)).setCell ⟨gb632, 3, none⟩ (.int .i64 t625)).setCell ⟨gb632, 4, none⟩ (.bool t626)).setCell ⟨gb632, 5, none⟩ (.bool t627)).setCell ⟨gb632, 6, none⟩ (.bool t628)).setCell ⟨gb632, 7, none⟩ (.bool t629)) = w35 at n0_ n1_ n2_ n3_ n4_ n5_ n6_ n7_ n8_ n9_ ⊢
 have HO613 := n0_; have HO616 := n1_; have BK604 := n2_; have BK605 := n3_; have BK606 := n4_; have BK620 := n5_; have BK621 := n6_; have BK632 := n7_; have HI610 := n8_; have HB := n9_; clear n0_ n1_ n2_ n3_ n4_ n5_ n6_ n7_ n8_ n9_
 replace HO613 := Aside0.mk (Kd.S_drew HO613.out)
 replace HO616 := Aside0.mk (Kd.Q_drew HO616.out)
 replace BK604 := Aside0.mk (blk_drew BK604.out)
 replace BK605 := Aside0.mk (blk_drew BK605.out)
 replace BK606 := Aside0.mk (blk_drew BK606.out)
 replace BK620 := Aside0.mk (blk_drew BK620.out)
 replace BK621 := Aside0.mk (blk_drew BK621.out)
 replace BK632 := Aside0.mk (blk_drew BK632.out)
 replace HI610 := Aside0.mk (IsS107.drew HI610.out)
 replace HB := Aside0.mk (below_drew1 HB.out)
 refine start_ (n := 10) (S := fun w' => w'.cell? ⟨gb620, 0, none⟩ = some (.slice Ao13 t611.length co13) ∧ w'.cell? ⟨gb621, 0, none⟩ = some (.slice Ao20 t614.length co20) ∧ w'.cell? ⟨gb621, 1, none⟩ = some (.int .i64 t617) ∧ w'.cell? ⟨gb632, 0, none⟩ = some (.int .i64 t622) ∧ w'.cell? ⟨gb632, 1, none⟩ = some (.int .i64 t623) ∧ w'.cell? ⟨gb632, 2, none⟩ = some (.int .i64 t624) ∧ w'.cell? ⟨gb632, 3, none⟩ = some (.int .i64 t625) ∧ w'.cell? ⟨gb632, 4, none⟩ = some (.bool t626) ∧ w'.cell? ⟨gb632, 5, none⟩ = some (.bool t627) ∧ w'.cell? ⟨gb632, 6, none⟩ = some (.bool t628) ∧ w'.cell? ⟨gb632, 7, none⟩ = some (.bool t629)) (ds := []) (bm 10 0) (by kernel_rfl) rfl (by kernel_rfl) ⟨cl BK620 0, cl BK621 0, cl BK621 1, cl BK632 0, cl BK632 1, cl BK632 2, cl BK632 3, cl BK632 4, cl BK632 5, cl BK632 6, cl BK632 7⟩ (fun hHeld => ?_); refine with_tabW spec_DrawEnter.tab4 spec_DrawEnter.bits4 (fun HT_ HW_ => ?_)
 generalize w35.drew = w36 at HO613 HO616 BK604 BK605 BK606 BK620 BK621 BK632 HI610 HB hHeld ⊢
 refine pw_ 3 (some 22) (bm 10 8) HT_ ?_
 refine tw_ 0 (some 19) (bm 10 9) HT_ HW_ hHeld ?_
 refine tw_ 1 (some 20) (bm 10 11) HT_ HW_ hHeld ?_
 refine tw_ 2 (some 21) (bm 10 15) HT_ HW_ hHeld ?_
 refine ow_ 4 (some 23) (bm 10 31) HT_ (fun K hK => ?_)
 refine Kd.R_lit_step (Kd.int .i64) _ 3 ?hg (N := 23) ?hd (xs := ([65530, 65534, 65532, 0, 65535] : List Int)) (inner := [.int .i64 65530, .int .i64 65534, .int .i64 65532, .int .i64 0, .int .i64 65535]) (ok := fun _ => True) (okp := fun _ => True) ?hr ?hp (fun _ hk => hk) trivial (Below.refl _ _) (Nat.le_refl _) (by simp) ?_; (case hd => rfl); (case hg => rfl); (case hr => first | (go_simp; done) | (go_simp; rfl)); (case hp => exact (reI _))
 intro v634 w37 ho38 hb hg_ hnew_
 clear hg_ hnew_
 (first | rw [← Ny633.out] at ho38 | (simp only [Int.reduceToNat] at ho38; rw [← Ny633.out] at ho38))
 replace HO613 := Aside0.mk (Kd.S_elder' (ks HO613.out) (Kd.R_base ho38) hb)
 have HO635 := Aside0.mk (Kd.R_lower (Kd.R_new' ho38 (Kd.Q_lt (kq HO616.out))) (below_size (bi HB.out)))
 replace HO616 := Aside0.mk (Kd.Q_elder' (kq HO616.out) (Kd.R_base ho38) hb)
 replace BK604 := Aside0.mk (bb BK604 hb)
 replace BK605 := Aside0.mk (bb BK605 hb)
 replace BK606 := Aside0.mk (bb BK606 hb)
 replace HI610 := Aside0.mk (IsS107.below (si HI610.out) hb)
 replace BK620 := Aside0.mk (bb BK620 hb)
 replace BK621 := Aside0.mk (bb BK621 hb)
 replace BK632 := Aside0.mk (bb BK632 hb)
 replace HB := Aside0.mk (below_step (bi HB.out) hb)
 clear hb ho38
 obtain ⟨Ao39, co39, eo39⟩ := Kd.R_slice HO635.out
 (first | subst eo39 | (injection eo39 with f1_ f2_ f3_; have f4_ := f1_.symm; have f5_ := f3_.symm; clear f1_ f2_ f3_; subst f4_; subst f5_))
 refine hK.out _ _ ⟨cl BK620 0, cl BK621 0, cl BK621 1, cl BK632 0, cl BK632 1, cl BK632 2, cl BK632 3, cl BK632 4, cl BK632 5, cl BK632 6, cl BK632 7⟩ (fun hHeld => ?_)
 clear hK K
 refine nw_ 23 ?_
 refine ow_ 5 (some 24) (bm 10 63) HT_ (fun K hK => ?_)
 refine gw_ Try.func70 #[.pointer (some ⟨g610, 0, none⟩), .slice Ao39 y633.length co39] ?_
 with_reducible refine (spec_l1PickInt.calls g610 t607 t630 t631 _ _ y633 t636 t637 t638 w _ ?side1 ?side2 ?side3 ?side4 ?side5 A5.out).mono ?_
 (case side1 => exact si HI610.out)
 (case side2 => exact bi HB.out)
 (case side3 => exact kc (Kd.R_reads' HO635.out).2.2)
 (case side4 => exact (Kd.R_reads' HO635.out).2.1)
 (case side5 => exact far_slice (IsS107.own_ne HI610.out HO635.out (by decide)))
 rintro e w40 ⟨rfl, hi, hb, hk⟩
 refine ⟨_, rfl, ?_⟩
 replace BK604 := Aside0.mk (kB hk (kb BK604.out) NB604_610)
 replace BK605 := Aside0.mk (kB hk (kb BK605.out) NB605_610)
 replace BK606 := Aside0.mk (kB hk (kb BK606.out) NB606_610)
 replace HO613 := Aside0.mk (Kd.S_mono (Kd.S_keep (IsS107.apartS (show IsS107 w _ g610 t607 t630 t631 from si HI610.out) (ks HO613.out) (by decide)) hk (fun _ h => h.2)) (fun _ h => h.1))
 replace HO616 := Aside0.mk (Kd.Q_mono (Kd.Q_keep (IsS107.apartQ (show IsS107 w _ g610 t607 t630 t631 from si HI610.out) (kq HO616.out) (by decide)) hk (fun _ h => h.2)) (fun _ h => h.1))
 replace BK620 := Aside0.mk (kB hk (kb BK620.out) NB620_610)
 replace BK621 := Aside0.mk (kB hk (kb BK621.out) NB621_610)
 replace BK632 := Aside0.mk (kB hk (kb BK632.out) NB632_610)
 replace HO635 := Aside0.mk (Kd.R_mono (Kd.R_keep (IsS107.apart (show IsS107 w _ g610 t607 t630 t631 from si HI610.out) (kr HO635.out) (by decide)) hk (fun _ h => h.2)) (fun _ h => h.1))
 replace HB := Aside0.mk (hb)
 replace HI610 := Aside0.mk (hi)
 (try clear hb); (try clear hb2); (try clear hk); (try clear hi)
 refine hK.out _ _ ⟨cl BK620 0, cl BK621 0, cl BK621 1, cl BK632 0, cl BK632 1, cl BK632 2, cl BK632 3, cl BK632 4, cl BK632 5, cl BK632 6, cl BK632 7⟩ (fun hHeld => ?_)
 clear hK K
 refine nw_ 24 ?_
 refine ow_ 6 none (bm 10 127) HT_ (fun K hK => ?_)
 have hs41 : w40.cell? ⟨gb604, 0, none⟩ = some (.slice none 0 0) := cl BK604 0
 have hfs41 := blk_frozen BK604.out 0
 have hns41_1 := NB605_604.out
 have hns41_2 := NB606_604.out
 have hns41_3 := NB620_604.out
 have hns41_4 := NB621_604.out
 have hns41_5 := NB632_604.out
 have hms41_1 := NB604_605.out
 have hms41_2 := NB604_606.out
 have hms41_3 := NB604_620.out
 have hms41_4 := NB604_621.out
 have hms41_5 := NB604_632.out
 refine skip_ (w1 := ?_) (by rfl) rfl ?_ ?_
 rotate_left
 ·go_simp
  rfl
 refine hK.out _ _ ⟨(fr NB620_604 (hHeld.1)), (fr NB621_604 (hHeld.2.1)), (fr NB621_604 (hHeld.2.2.1)), (fr NB632_604 (hHeld.2.2.2.1)), (fr NB632_604 (hHeld.2.2.2.2.1)), (fr NB632_604 (hHeld.2.2.2.2.2.1)), (fr NB632_604 (hHeld.2.2.2.2.2.2.1)), (fr NB632_604 (hHeld.2.2.2.2.2.2.2.1)), (fr NB632_604 (hHeld.2.2.2.2.2.2.2.2.1)), (fr NB632_604 (hHeld.2.2.2.2.2.2.2.2.2.1)), (fr NB632_604 (hHeld.2.2.2.2.2.2.2.2.2.2))⟩ (fun hHeld => ?_)
 clear hK K
 refine ow_ 7 none (bm 10 255) HT_ (fun K hK => ?_)
 have hs42 : w40.cell? ⟨gb605, 0, none⟩ = some (.slice none 0 0) := cl BK605 0
 have hfs42 := blk_frozen BK605.out 0
 have hns42_0 := NB604_605.out
 have hns42_2 := NB606_605.out
 have hns42_3 := NB620_605.out
 have hns42_4 := NB621_605.out
 have hns42_5 := NB632_605.out
 have hms42_0 := NB605_604.out
 have hms42_2 := NB605_606.out
 have hms42_3 := NB605_620.out
 have hms42_4 := NB605_621.out
 have hms42_5 := NB605_632.out
 have hs43 : w40.cell? ⟨gb605, 1, none⟩ = some (.int .i64 0) := cl BK605 1
 have hfs43 := blk_frozen BK605.out 1
 have hns43_0 := NB604_605.out
 have hns43_2 := NB606_605.out
 have hns43_3 := NB620_605.out
 have hns43_4 := NB621_605.out
 have hns43_5 := NB632_605.out
 have hms43_0 := NB605_604.out
 have hms43_2 := NB605_606.out
 have hms43_3 := NB605_620.out
 have hms43_4 := NB605_621.out
 have hms43_5 := NB605_632.out
 refine skip_ (w1 := ?_) (by rfl) rfl ?_ ?_
 rotate_left
 ·go_simp
  rfl
 refine hK.out _ _ ⟨(fr NB620_605 (hHeld.1)), (fr NB621_605 (hHeld.2.1)), (fr NB621_605 (hHeld.2.2.1)), (fr NB632_605 (hHeld.2.2.2.1)), (fr NB632_605 (hHeld.2.2.2.2.1)), (fr NB632_605 (hHeld.2.2.2.2.2.1)), (fr NB632_605 (hHeld.2.2.2.2.2.2.1)), (fr NB632_605 (hHeld.2.2.2.2.2.2.2.1)), (fr NB632_605 (hHeld.2.2.2.2.2.2.2.2.1)), (fr NB632_605 (hHeld.2.2.2.2.2.2.2.2.2.1)), (fr NB632_605 (hHeld.2.2.2.2.2.2.2.2.2.2))⟩ (fun hHeld => ?_)
 clear hK K
 refine ow_ 8 none (bm 10 511) HT_ (fun K hK => ?_)
 have hs44 : w40.cell? ⟨gb606, 0, none⟩ = some (.int .i64 0) := cl BK606 0
 have hfs44 := blk_frozen BK606.out 0
 have hns44_0 := NB604_606.out
 have hns44_1 := NB605_606.out
 have hns44_3 := NB620_606.out
 have hns44_4 := NB621_606.out
 have hns44_5 := NB632_606.out
 have hms44_0 := NB606_604.out
 have hms44_1 := NB606_605.out
 have hms44_3 := NB606_620.out
 have hms44_4 := NB606_621.out
 have hms44_5 := NB606_632.out
 have hs45 : w40.cell? ⟨gb606, 1, none⟩ = some (.int .i64 0) := cl BK606 1
 have hfs45 := blk_frozen BK606.out 1
 have hns45_0 := NB604_606.out
 have hns45_1 := NB605_606.out
 have hns45_3 := NB620_606.out
 have hns45_4 := NB621_606.out
 have hns45_5 := NB632_606.out
 have hms45_0 := NB606_604.out
 have hms45_1 := NB606_605.out
 have hms45_3 := NB606_620.out
 have hms45_4 := NB606_621.out
 have hms45_5 := NB606_632.out
 have hs46 : w40.cell? ⟨gb606, 2, none⟩ = some (.int .i64 0) := cl BK606 2
 have hfs46 := blk_frozen BK606.out 2
 have hns46_0 := NB604_606.out
 have hns46_1 := NB605_606.out
 have hns46_3 := NB620_606.out
 have hns46_4 := NB621_606.out
 have hns46_5 := NB632_606.out
 have hms46_0 := NB606_604.out
 have hms46_1 := NB606_605.out
 have hms46_3 := NB606_620.out
 have hms46_4 := NB606_621.out
 have hms46_5 := NB606_632.out
 have hs47 : w40.cell? ⟨gb606, 3, none⟩ = some (.int .i64 0) := cl BK606 3
 have hfs47 := blk_frozen BK606.out 3
 have hns47_0 := NB604_606.out
 have hns47_1 := NB605_606.out
 have hns47_3 := NB620_606.out
 have hns47_4 := NB621_606.out
 have hns47_5 := NB632_606.out
 have hms47_0 := NB606_604.out
 have hms47_1 := NB606_605.out
 have hms47_3 := NB606_620.out
 have hms47_4 := NB606_621.out
 have hms47_5 := NB606_632.out
 have hs48 : w40.cell? ⟨gb606, 4, none⟩ = some (.bool false) := cl BK606 4
 have hfs48 := blk_frozen BK606.out 4
 have hns48_0 := NB604_606.out
 have hns48_1 := NB605_606.out
 have hns48_3 := NB620_606.out
 have hns48_4 := NB621_606.out
 have hns48_5 := NB632_606.out
 have hms48_0 := NB606_604.out
 have hms48_1 := NB606_605.out
 have hms48_3 := NB606_620.out
 have hms48_4 := NB606_621.out
 have hms48_5 := NB606_632.out
 have hs49 : w40.cell? ⟨gb606, 5, none⟩ = some (.bool false) := cl BK606 5
 have hfs49 := blk_frozen BK606.out 5
 have hns49_0 := NB604_606.out
 have hns49_1 := NB605_606.out
 have hns49_3 := NB620_606.out
 have hns49_4 := NB621_606.out
 have hns49_5 := NB632_606.out
 have hms49_0 := NB606_604.out
 have hms49_1 := NB606_605.out
 have hms49_3 := NB606_620.out
 have hms49_4 := NB606_621.out
 have hms49_5 := NB606_632.out
 have hs50 : w40.cell? ⟨gb606, 6, none⟩ = some (.bool false) := cl BK606 6
 have hfs50 := blk_frozen BK606.out 6
 have hns50_0 := NB604_606.out
 have hns50_1 := NB605_606.out
 have hns50_3 := NB620_606.out
 have hns50_4 := NB621_606.out
 have hns50_5 := NB632_606.out
 have hms50_0 := NB606_604.out
 have hms50_1 := NB606_605.out
 have hms50_3 := NB606_620.out
 have hms50_4 := NB606_621.out
 have hms50_5 := NB606_632.out
 have hs51 : w40.cell? ⟨gb606, 7, none⟩ = some (.bool false) := cl BK606 7
 have hfs51 := blk_frozen BK606.out 7
 have hns51_0 := NB604_606.out
 have hns51_1 := NB605_606.out
 have hns51_3 := NB620_606.out
 have hns51_4 := NB621_606.out
 have hns51_5 := NB632_606.out
 have hms51_0 := NB606_604.out
 have hms51_1 := NB606_605.out
 have hms51_3 := NB606_620.out
 have hms51_4 := NB606_621.out
 have hms51_5 := NB606_632.out
 refine skip_ (w1 := ?_) (by rfl) rfl ?_ ?_
 rotate_left
 ·go_simp
  rfl
 refine hK.out _ _ ⟨(fr NB620_606 (hHeld.1)), (fr NB621_606 (hHeld.2.1)), (fr NB621_606 (hHeld.2.2.1)), (fr NB632_606 (hHeld.2.2.2.1)), (fr NB632_606 (hHeld.2.2.2.2.1)), (fr NB632_606 (hHeld.2.2.2.2.2.1)), (fr NB632_606 (hHeld.2.2.2.2.2.2.1)), (fr NB632_606 (hHeld.2.2.2.2.2.2.2.1)), (fr NB632_606 (hHeld.2.2.2.2.2.2.2.2.1)), (fr NB632_606 (hHeld.2.2.2.2.2.2.2.2.2.1)), (fr NB632_606 (hHeld.2.2.2.2.2.2.2.2.2.2))⟩ (fun hHeld => ?_)
 clear hK K
 refine pw_ 9 (some 5) (bm 10 1023) HT_ ?_
 refine done_ (done_of HT_.out (by kernel_rfl)) ?_
 try go_wp2
 refine bodyPost_ret (results_list (rs := [.cell 2 29, .cell 3 32, .cell 4 55, .tmp 5]) rfl (by simp) (.cell gb604 29 #[.slice Ao13 t611.length co13] (0, 0) _ rfl (bf2 NB604_606 NB604_605 BK604.out) Try.underlying29 rfl (by kernel_rfl) (.cell gb605 32 #[.slice Ao20 t614.length co20, .int .i64 t617] (0, 0) _ rfl (bf2 NB605_606 NB605_604 BK605.out) Try.underlying32 rfl (by kernel_rfl) (.cell gb606 55 #[.int .i64 t622, .int .i64 t623, .int .i64 t624, .int .i64 t625, .bool t626, .bool t627, .bool t628, .bool t629] (0, 0) _ rfl (bf2 NB606_605 NB606_604 BK606.out) Try.underlying55 rfl (by kernel_rfl) (.tmp .nil))))) rfl ?_
 exact ⟨_, _, rt, ks (Kd.S_mono (Kd.S_far (p := ⟨gb606, 7, none⟩) (Kd.S_far (p := ⟨gb606, 6, none⟩) (Kd.S_far (p := ⟨gb606, 5, none⟩) (Kd.S_far (p := ⟨gb606, 4, none⟩) (Kd.S_far (p := ⟨gb606, 3, none⟩) (Kd.S_far (p := ⟨gb606, 2, none⟩) (Kd.S_far (p := ⟨gb606, 1, none⟩) (Kd.S_far (p := ⟨gb606, 0, none⟩) (Kd.S_far (p := ⟨gb605, 1, none⟩) (Kd.S_far (p := ⟨gb605, 0, none⟩) (Kd.S_far (p := ⟨gb604, 0, none⟩) (Kd.S_types (Kd.S_types (Kd.S_types HO613.out BK604.out (by decide)) BK605.out (by decide)) BK606.out (by decide)) (fun _ hk => hk.1.1.2) (.slice Ao13 t611.length co13)) (fun _ hk => hk.1.2) (.slice Ao20 t614.length co20)) (fun _ hk => hk.1.2) (.int .i64 t617)) (fun _ hk => hk.2) (.int .i64 t622)) (fun _ hk => hk.2) (.int .i64 t623)) (fun _ hk => hk.2) (.int .i64 t624)) (fun _ hk => hk.2) (.int .i64 t625)) (fun _ hk => hk.2) (.bool t626)) (fun _ hk => hk.2) (.bool t627)) (fun _ hk => hk.2) (.bool t628)) (fun _ hk => hk.2) (.bool t629)) (fun _ hk => hk.1.1.1.1)), kq (Kd.Q_mono (Kd.Q_far (p := ⟨gb606, 7, none⟩) (Kd.Q_far (p := ⟨gb606, 6, none⟩) (Kd.Q_far (p := ⟨gb606, 5, none⟩) (Kd.Q_far (p := ⟨gb606, 4, none⟩) (Kd.Q_far (p := ⟨gb606, 3, none⟩) (Kd.Q_far (p := ⟨gb606, 2, none⟩) (Kd.Q_far (p := ⟨gb606, 1, none⟩) (Kd.Q_far (p := ⟨gb606, 0, none⟩) (Kd.Q_far (p := ⟨gb605, 1, none⟩) (Kd.Q_far (p := ⟨gb605, 0, none⟩) (Kd.Q_far (p := ⟨gb604, 0, none⟩) (Kd.Q_types (Kd.Q_types (Kd.Q_types HO616.out BK604.out (by decide)) BK605.out (by decide)) BK606.out (by decide)) (fun _ hk => hk.1.1.2) (.slice Ao13 t611.length co13)) (fun _ hk => hk.1.2) (.slice Ao20 t614.length co20)) (fun _ hk => hk.1.2) (.int .i64 t617)) (fun _ hk => hk.2) (.int .i64 t622)) (fun _ hk => hk.2) (.int .i64 t623)) (fun _ hk => hk.2) (.int .i64 t624)) (fun _ hk => hk.2) (.int .i64 t625)) (fun _ hk => hk.2) (.bool t626)) (fun _ hk => hk.2) (.bool t627)) (fun _ hk => hk.2) (.bool t628)) (fun _ hk => hk.2) (.bool t629)) (fun _ hk => trivial)), bi HB.out⟩

/-! ### impl_Flags: function 56 -/
def impl_Flags.f (a0_0 : Int) (a0_1 : Int) (a0_2 : Int) (a0_3 : Int) (a0_4 : Bool) (a0_5 : Bool) (a0_6 : Bool) (a0_7 : Bool) : Option (Int) := (impl_flag.f a0_6).bind fun t640 => ((impl_flag.f a0_4).bind fun t641 => ((impl_flag.f a0_7).bind fun t642 => ((impl_flag.f a0_5).bind fun t643 => (some (Go.bits .or .i64 (Go.bits .or .i64 (Go.bits .or .i64 (wrap64 (1 * t640)) (wrap64 (2 * t641))) (wrap64 (4 * t642))) (wrap64 (128 * t643)))))))
set_option maxHeartbeats 8000000 in
set_option maxRecDepth 100000 in
theorem impl_Flags.calls (a0_0 : Int) (a0_1 : Int) (a0_2 : Int) (a0_3 : Int) (a0_4 : Bool) (a0_5 : Bool) (a0_6 : Bool) (a0_7 : Bool) (r : Int) (w : World) (h : impl_Flags.f a0_0 a0_1 a0_2 a0_3 a0_4 a0_5 a0_6 a0_7 = some r) :
  Calls Try.prog 56 #[.agg #[.int .i64 a0_0, .int .i64 a0_1, .int .i64 a0_2, .int .i64 a0_3, .bool a0_4, .bool a0_5, .bool a0_6, .bool a0_7]] w fun e w' => e = .returned (.int .i64 r) ∧ Below w.heap.size w w' := by
 have hu55 := Try.underlying55
 have HB := Aside0.mk (Below.refl w.heap.size w)
 have H : ((impl_flag.f a0_6).bind fun t640 => ((impl_flag.f a0_4).bind fun t641 => ((impl_flag.f a0_7).bind fun t642 => ((impl_flag.f a0_5).bind fun t643 => (some (Go.bits .or .i64 (Go.bits .or .i64 (Go.bits .or .i64 (wrap64 (1 * t640)) (wrap64 (2 * t641))) (wrap64 (4 * t642))) (wrap64 (128 * t643)))))))) = some r := h
 clear h
 replace H := Option.bind_eq_some_iff.mp H
 obtain ⟨t640, A20, H⟩ := H
 replace H : ((impl_flag.f a0_4).bind fun t641 => ((impl_flag.f a0_7).bind fun t642 => ((impl_flag.f a0_5).bind fun t643 => (some (Go.bits .or .i64 (Go.bits .or .i64 (Go.bits .or .i64 (wrap64 (1 * t640)) (wrap64 (2 * t641))) (wrap64 (4 * t642))) (wrap64 (128 * t643))))))) = some r := H
 have A2 := Aside0.mk A20
 clear A20
 replace H := Option.bind_eq_some_iff.mp H
 obtain ⟨t641, A30, H⟩ := H
 replace H : ((impl_flag.f a0_7).bind fun t642 => ((impl_flag.f a0_5).bind fun t643 => (some (Go.bits .or .i64 (Go.bits .or .i64 (Go.bits .or .i64 (wrap64 (1 * t640)) (wrap64 (2 * t641))) (wrap64 (4 * t642))) (wrap64 (128 * t643)))))) = some r := H
 have A3 := Aside0.mk A30
 clear A30
 replace H := Option.bind_eq_some_iff.mp H
 obtain ⟨t642, A40, H⟩ := H
 replace H : ((impl_flag.f a0_5).bind fun t643 => (some (Go.bits .or .i64 (Go.bits .or .i64 (Go.bits .or .i64 (wrap64 (1 * t640)) (wrap64 (2 * t641))) (wrap64 (4 * t642))) (wrap64 (128 * t643))))) = some r := H
 have A4 := Aside0.mk A40
 clear A40
 replace H := Option.bind_eq_some_iff.mp H
 obtain ⟨t643, A50, H⟩ := H
 replace H : (some (Go.bits .or .i64 (Go.bits .or .i64 (Go.bits .or .i64 (wrap64 (1 * t640)) (wrap64 (2 * t641))) (wrap64 (4 * t642))) (wrap64 (128 * t643)))) = some r := H
 have A5 := Aside0.mk A50
 clear A50
 obtain rfl := Option.some.inj H
 go_enter Try.func56, Try.ntmps56
 go_wp2_with (first | ((with_reducible refine gate_dst (N := 1) rfl ?_); refine bx (N := 1) (cs := #[.int .i64 a0_0, .int .i64 a0_1, .int .i64 a0_2, .int .i64 a0_3, .bool a0_4, .bool a0_5, .bool a0_6, .bool a0_7]) (t := 55) ?_; intro gb639 hg w6 hbox hb; have BK639 := Aside0.mk (hbox); have GW639 := Aside0.mk ((gs hg (bw HB.out))); have GE639 := Aside0.mk ((gs hg (bw HB.out))); replace HB := Aside0.mk (below_step (bw HB.out) hb); clear hb hbox hg; obtain ⟨hcz7_0, hcz7_1, hcz7_2, hcz7_3, hcz7_4, hcz7_5, hcz7_6, hcz7_7⟩ := ce8 BK639; have hfz7_0 := blk_frozen BK639.out 0; have hfz7_1 := blk_frozen BK639.out 1; have hfz7_2 := blk_frozen BK639.out 2; have hfz7_3 := blk_frozen BK639.out 3; have hfz7_4 := blk_frozen BK639.out 4; have hfz7_5 := blk_frozen BK639.out 5; have hfz7_6 := blk_frozen BK639.out 6; have hfz7_7 := blk_frozen BK639.out 7) | (go_at_call 101; (with_reducible refine (impl_flag.calls a0_6 t640 _ A2.out).mono ?_); rintro e w' ⟨rfl, ⟨nd, rfl⟩⟩; (try first | exact ⟨rfl, _, World.drewN_drewN _ _ _⟩ | exact ⟨rfl, _, Eq.trans (World.drewN_drewN _ _ _) (congrArg (World.drewN _) (Nat.add_assoc _ _ _))⟩)) | (go_at_call 101; (with_reducible refine (impl_flag.calls a0_4 t641 _ A3.out).mono ?_); rintro e w' ⟨rfl, ⟨nd, rfl⟩⟩; (try first | exact ⟨rfl, _, World.drewN_drewN _ _ _⟩ | exact ⟨rfl, _, Eq.trans (World.drewN_drewN _ _ _) (congrArg (World.drewN _) (Nat.add_assoc _ _ _))⟩)) | (go_at_call 101; (with_reducible refine (impl_flag.calls a0_7 t642 _ A4.out).mono ?_); rintro e w' ⟨rfl, ⟨nd, rfl⟩⟩; (try first | exact ⟨rfl, _, World.drewN_drewN _ _ _⟩ | exact ⟨rfl, _, Eq.trans (World.drewN_drewN _ _ _) (congrArg (World.drewN _) (Nat.add_assoc _ _ _))⟩)) | (go_at_call 101; (with_reducible refine (impl_flag.calls a0_5 t643 _ A5.out).mono ?_); rintro e w' ⟨rfl, ⟨nd, rfl⟩⟩; (try first | exact ⟨rfl, _, World.drewN_drewN _ _ _⟩ | exact ⟨rfl, _, Eq.trans (World.drewN_drewN _ _ _) (congrArg (World.drewN _) (Nat.add_assoc _ _ _))⟩)))
 repeat (go_quiet (first | ((with_reducible refine gate_dst (N := 1) rfl ?_); refine bx (N := 1) (cs := #[.int .i64 a0_0, .int .i64 a0_1, .int .i64 a0_2, .int .i64 a0_3, .bool a0_4, .bool a0_5, .bool a0_6, .bool a0_7]) (t := 55) ?_; intro gb639 hg w6 hbox hb; have BK639 := Aside0.mk (hbox); have GW639 := Aside0.mk ((gs hg (bw HB.out))); have GE639 := Aside0.mk ((gs hg (bw HB.out))); replace HB := Aside0.mk (below_step (bw HB.out) hb); clear hb hbox hg; obtain ⟨hcz7_0, hcz7_1, hcz7_2, hcz7_3, hcz7_4, hcz7_5, hcz7_6, hcz7_7⟩ := ce8 BK639; have hfz7_0 := blk_frozen BK639.out 0; have hfz7_1 := blk_frozen BK639.out 1; have hfz7_2 := blk_frozen BK639.out 2; have hfz7_3 := blk_frozen BK639.out 3; have hfz7_4 := blk_frozen BK639.out 4; have hfz7_5 := blk_frozen BK639.out 5; have hfz7_6 := blk_frozen BK639.out 6; have hfz7_7 := blk_frozen BK639.out 7) | (go_at_call 101; (with_reducible refine (impl_flag.calls a0_6 t640 _ A2.out).mono ?_); rintro e w' ⟨rfl, ⟨nd, rfl⟩⟩; (try first | exact ⟨rfl, _, World.drewN_drewN _ _ _⟩ | exact ⟨rfl, _, Eq.trans (World.drewN_drewN _ _ _) (congrArg (World.drewN _) (Nat.add_assoc _ _ _))⟩)) | (go_at_call 101; (with_reducible refine (impl_flag.calls a0_4 t641 _ A3.out).mono ?_); rintro e w' ⟨rfl, ⟨nd, rfl⟩⟩; (try first | exact ⟨rfl, _, World.drewN_drewN _ _ _⟩ | exact ⟨rfl, _, Eq.trans (World.drewN_drewN _ _ _) (congrArg (World.drewN _) (Nat.add_assoc _ _ _))⟩)) | (go_at_call 101; (with_reducible refine (impl_flag.calls a0_7 t642 _ A4.out).mono ?_); rintro e w' ⟨rfl, ⟨nd, rfl⟩⟩; (try first | exact ⟨rfl, _, World.drewN_drewN _ _ _⟩ | exact ⟨rfl, _, Eq.trans (World.drewN_drewN _ _ _) (congrArg (World.drewN _) (Nat.add_assoc _ _ _))⟩)) | (go_at_call 101; (with_reducible refine (impl_flag.calls a0_5 t643 _ A5.out).mono ?_); rintro e w' ⟨rfl, ⟨nd, rfl⟩⟩; (try first | exact ⟨rfl, _, World.drewN_drewN _ _ _⟩ | exact ⟨rfl, _, Eq.trans (World.drewN_drewN _ _ _) (congrArg (World.drewN _) (Nat.add_assoc _ _ _))⟩))); try go_wp2_with (first | ((with_reducible refine gate_dst (N := 1) rfl ?_); refine bx (N := 1) (cs := #[.int .i64 a0_0, .int .i64 a0_1, .int .i64 a0_2, .int .i64 a0_3, .bool a0_4, .bool a0_5, .bool a0_6, .bool a0_7]) (t := 55) ?_; intro gb639 hg w6 hbox hb; have BK639 := Aside0.mk (hbox); have GW639 := Aside0.mk ((gs hg (bw HB.out))); have GE639 := Aside0.mk ((gs hg (bw HB.out))); replace HB := Aside0.mk (below_step (bw HB.out) hb); clear hb hbox hg; obtain ⟨hcz7_0, hcz7_1, hcz7_2, hcz7_3, hcz7_4, hcz7_5, hcz7_6, hcz7_7⟩ := ce8 BK639; have hfz7_0 := blk_frozen BK639.out 0; have hfz7_1 := blk_frozen BK639.out 1; have hfz7_2 := blk_frozen BK639.out 2; have hfz7_3 := blk_frozen BK639.out 3; have hfz7_4 := blk_frozen BK639.out 4; have hfz7_5 := blk_frozen BK639.out 5; have hfz7_6 := blk_frozen BK639.out 6; have hfz7_7 := blk_frozen BK639.out 7) | (go_at_call 101; (with_reducible refine (impl_flag.calls a0_6 t640 _ A2.out).mono ?_); rintro e w' ⟨rfl, ⟨nd, rfl⟩⟩; (try first | exact ⟨rfl, _, World.drewN_drewN _ _ _⟩ | exact ⟨rfl, _, Eq.trans (World.drewN_drewN _ _ _) (congrArg (World.drewN _) (Nat.add_assoc _ _ _))⟩)) | (go_at_call 101; (with_reducible refine (impl_flag.calls a0_4 t641 _ A3.out).mono ?_); rintro e w' ⟨rfl, ⟨nd, rfl⟩⟩; (try first | exact ⟨rfl, _, World.drewN_drewN _ _ _⟩ | exact ⟨rfl, _, Eq.trans (World.drewN_drewN _ _ _) (congrArg (World.drewN _) (Nat.add_assoc _ _ _))⟩)) | (go_at_call 101; (with_reducible refine (impl_flag.calls a0_7 t642 _ A4.out).mono ?_); rintro e w' ⟨rfl, ⟨nd, rfl⟩⟩; (try first | exact ⟨rfl, _, World.drewN_drewN _ _ _⟩ | exact ⟨rfl, _, Eq.trans (World.drewN_drewN _ _ _) (congrArg (World.drewN _) (Nat.add_assoc _ _ _))⟩)) | (go_at_call 101; (with_reducible refine (impl_flag.calls a0_5 t643 _ A5.out).mono ?_); rintro e w' ⟨rfl, ⟨nd, rfl⟩⟩; (try first | exact ⟨rfl, _, World.drewN_drewN _ _ _⟩ | exact ⟨rfl, _, Eq.trans (World.drewN_drewN _ _ _) (congrArg (World.drewN _) (Nat.add_assoc _ _ _))⟩))))
 go_ret
 exact ⟨rt, bw HB.out⟩

/-! ### impl_isByte: function 104 -/
def impl_isByte.f (a0 : Int) : Option (Bool) := (impl_within.f a0 0 255).bind fun t644 => (some t644)
set_option maxHeartbeats 8000000 in
set_option maxRecDepth 100000 in
theorem impl_isByte.calls (a0 : Int) (r : Bool) (w : World) (h : impl_isByte.f a0 = some r) :
  Calls Try.prog 104 #[.int .i64 a0] w fun e w' => e = .returned (.bool r) ∧ Drawn0 w w' := by
 have H : ((impl_within.f a0 0 255).bind fun t644 => (some t644)) = some r := h
 clear h
 replace H := Option.bind_eq_some_iff.mp H
 obtain ⟨t644, A20, H⟩ := H
 replace H : (some t644) = some r := H
 have A2 := Aside0.mk A20
 clear A20
 obtain rfl := Option.some.inj H
 go_enter Try.func104, Try.ntmps104
 go_wp2_with (first | ((with_reducible refine gate_callee (f := 67) rfl ?_); refine goesM_ (some 4) rfl rfl Try.func67 #[.int .i64 a0, .int .i64 0, .int .i64 255] ?_; (with_reducible refine (impl_within.calls a0 0 255 t644 _ A2.out).mono ?_); rintro e w' ⟨rfl, ⟨nd, rfl⟩⟩; refine ⟨_, rfl, ?_⟩))
 go_ret
 exact ⟨by first | rfl | (simp; done) | (simp [*]; done), by repeat (first | exact Drawn0.refl _ | apply Drawn0.step)⟩

/-! ### impl_bytesOk: function 66 -/
def impl_bytesOk.l0 : Nat → List Int → Int → Int → Option (Bool)
 | 0, _, _, _ => none
 | k + 1, x5, x6, x7 => if x7 < x6 then (if 0 ≤ x7 then (if x7 < (x5.length : Int) then ((impl_isByte.f (rd x5 x7)).bind fun t646 => (if t646 = true then (impl_bytesOk.l0 k x5 x6 (wrap64 (x7 + 1))) else (some false))) else (none)) else (none)) else (some true)
def impl_bytesOk.f (k : Nat) (l0 : List Int) : Option (Bool) := impl_bytesOk.l0 k l0 (l0.length : Int) 0
set_option maxHeartbeats 8000000 in
set_option maxRecDepth 100000 in
theorem impl_bytesOk.calls (k : Nat) (A0 : Option Addr) (c0 : Nat) (l0 : List Int) (r : Bool) (w : World) (hr0 : Kd.C (Kd.int .i64) w A0 l0.length l0) (hc0 : l0.length ≤ c0) (h : impl_bytesOk.f k l0 = some r) :
  Calls Try.prog 66 #[.slice A0 l0.length c0] w fun e w' => e = .returned (.bool r) ∧ Drawn0 w w' := by
 have HR0 := Aside0.mk hr0
 have HC0 := Aside0.mk hc0
 clear hr0 hc0
 have H : (impl_bytesOk.l0 k l0 (l0.length : Int) 0) = some r := h
 clear h
 have H' := Aside0.mk H
 clear H
 go_enter Try.func66, Try.ntmps66
 go_wp2
 go_loopg [7] k (fun kq v7 w' => ∃ (x7_1 : Int), v7 = .int .i64 x7_1 ∧ Aside0 (impl_bytesOk.l0 kq l0 (l0.length : Int) x7_1 = some r) ∧ Aside0 (kq ≤ k) ∧ Drawn0 w w')
 case atStart => exact ⟨(0), (by first | rfl | (simp; done) | (simp [*]; done)), H', ⟨Nat.le_refl _⟩, by repeat (first | exact Drawn0.refl _ | apply Drawn0.step)⟩
 case round =>
  clear H'
  obtain ⟨x7_1, rfl, HA, HK1, ⟨m1, rfl⟩⟩ := hrel
  cases gk with
  | zero => exact absurd HA.out (by simp [impl_bytesOk.l0])
  | succ k1 =>
   have H := HA.out
   clear HA
   simp only [impl_bytesOk.l0] at H
   by_cases c2 : x7_1 < (l0.length : Int)
   ·rw [if_pos c2] at H
    have c2b0 : decide (x7_1 < (l0.length : Int)) = true := decide_eq_true c2
    clear c2
    by_cases c3 : 0 ≤ x7_1
    ·rw [if_pos c3] at H
     have c3b0 : decide (0 ≤ x7_1) = true := decide_eq_true c3
     clear c3
     by_cases c4 : x7_1 < (l0.length : Int)
     ·rw [if_pos c4] at H
      have c4b0 : decide (x7_1 < (l0.length : Int)) = true := decide_eq_true c4
      clear c4
      replace H := Option.bind_eq_some_iff.mp H
      obtain ⟨t646, A50, H⟩ := H
      replace H : (if t646 = true then (impl_bytesOk.l0 k1 l0 (l0.length : Int) (wrap64 (x7_1 + 1))) else (some false)) = some r := H
      have A5 := Aside0.mk A50
      clear A50
      by_cases c6 : t646 = true
      ·subst c6
       have H1 : (impl_bytesOk.l0 k1 l0 (l0.length : Int) (wrap64 (x7_1 + 1))) = some r := by rw [if_pos rfl] at H; exact H
       clear H
       have H := H1
       clear H1
       have H' := Aside0.mk H
       clear H
       have p645 : 0 ≤ (x7_1 : Int) := dt
       have q645 : x7_1 < (l0.length : Int) := dt
       obtain ⟨ad645, e645, hx645_0⟩ := Kd.at_int HR0.out x7_1 p645 q645
       cases e645
       replace p645 := eq_true p645
       replace q645 := eq_true q645
       go_wp2_with (first | ((with_reducible refine gate_callee (f := 104) rfl ?_); refine goesM_ (some 12) rfl rfl Try.func104 #[.int .i64 (rd l0 x7_1)] ?_; (with_reducible refine (impl_isByte.calls (rd l0 x7_1) true _ A5.out).mono ?_); rintro e w' ⟨rfl, ⟨nd, rfl⟩⟩; refine ⟨_, rfl, ?_⟩))
       go_roundg k1
       case measure => have := HK1.out; omega
       case rel => exact ⟨(wrap64 (x7_1 + 1)), (by first | rfl | (simp; done) | (simp [*]; done)), H', ⟨by have := HK1.out; omega⟩, by repeat (first | exact Drawn0.refl _ | apply Drawn0.step)⟩
      ·replace c6 := Bool.eq_false_iff.mpr c6
       subst c6
       have H1 : (some false) = some r := by rw [if_neg (show ¬ (false = true) by decide)] at H; exact H
       clear H
       have H := H1
       clear H1
       obtain rfl := Option.some.inj H
       have p645 : 0 ≤ (x7_1 : Int) := dt
       have q645 : x7_1 < (l0.length : Int) := dt
       obtain ⟨ad645, e645, hx645_0⟩ := Kd.at_int HR0.out x7_1 p645 q645
       cases e645
       replace p645 := eq_true p645
       replace q645 := eq_true q645
       go_wp2_with (first | ((with_reducible refine gate_callee (f := 104) rfl ?_); refine goesM_ (some 12) rfl rfl Try.func104 #[.int .i64 (rd l0 x7_1)] ?_; (with_reducible refine (impl_isByte.calls (rd l0 x7_1) false _ A5.out).mono ?_); rintro e w' ⟨rfl, ⟨nd, rfl⟩⟩; refine ⟨_, rfl, ?_⟩))
       go_ret
       exact ⟨by first | rfl | (simp; done) | (simp [*]; done), by repeat (first | exact Drawn0.refl _ | apply Drawn0.step)⟩
     ·rw [if_neg c4] at H
      exact absurd H (by simp)
    ·rw [if_neg c3] at H
     exact absurd H (by simp)
   ·rw [if_neg c2] at H
    have c2b0 : decide (x7_1 < (l0.length : Int)) = false := decide_eq_false c2
    clear c2
    obtain rfl := Option.some.inj H
    go_wp2
    go_ret
    exact ⟨by first | rfl | (simp; done) | (simp [*]; done), by repeat (first | exact Drawn0.refl _ | apply Drawn0.step)⟩

/-! ### impl_ImageOk: function 19 -/
def impl_ImageOk.l0 : Nat → List (List Int) → Int → Int → List (List Int) → Option (Bool)
 | 0, _, _, _, _ => none
 | k + 1, x6, x7, x8, x648000 => if x8 < x7 then (if 0 ≤ x8 then (if x8 < (x6.length : Int) then (if ((rd_L2 x6 x8).length : Int) = 256 then ((impl_bytesOk.f k (rd_L2 x6 x8)).bind fun t649 => (if t649 = true then (impl_ImageOk.l0 k x6 x7 (wrap64 (x8 + 1)) x648000) else (some false))) else (some false)) else (none)) else (none)) else ((impl_within.f (x648000.length : Int) 1 8).bind fun t650 => (some t650))
def impl_ImageOk.f (k : Nat) (l0_0 : List (List Int)) : Option (Bool) := impl_ImageOk.l0 k l0_0 (l0_0.length : Int) 0 l0_0
set_option maxHeartbeats 8000000 in
set_option maxRecDepth 100000 in
theorem impl_ImageOk.calls (k : Nat) (A0_0 : Option Addr) (c0_0 : Nat) (l0_0 : List (List Int)) (r : Bool) (w : World) (hr0_0 : Kd.C (Kd.slice 3 (Kd.int .i64)) w A0_0 l0_0.length l0_0) (hc0_0 : l0_0.length ≤ c0_0) (h : impl_ImageOk.f k l0_0 = some r) :
  Calls Try.prog 19 #[.agg #[.slice A0_0 l0_0.length c0_0]] w fun e w' => e = .returned (.bool r) ∧ Below w.heap.size w w' := by
 have hu29 := Try.underlying29
 have HR0_0 := Aside0.mk hr0_0
 have HC0_0 := Aside0.mk hc0_0
 clear hr0_0 hc0_0
 have HB := Aside0.mk (Below.refl w.heap.size w)
 have H : (impl_ImageOk.l0 k l0_0 (l0_0.length : Int) 0 l0_0) = some r := h
 clear h
 have H' := Aside0.mk H
 clear H
 go_enter Try.func19, Try.ntmps19
 go_wp2_with (first | ((with_reducible refine gate_dst (N := 1) rfl ?_); refine bx (N := 1) (cs := #[.slice A0_0 l0_0.length c0_0]) (t := 29) ?_; intro gb647 hg w2 hbox hb; have BK647 := Aside0.mk (hbox); have GW647 := Aside0.mk ((gs hg (bw HB.out))); have GE647 := Aside0.mk ((gs hg (bw HB.out))); replace HB := Aside0.mk (below_step (bw HB.out) hb); clear hb hbox hg; have hcz3_0 : w2.cell? ⟨gb647, 0, none⟩ = some (.slice A0_0 l0_0.length c0_0) := cl BK647 0; have hfz3_0 := blk_frozen BK647.out 0))
 go_loopg [8] k (fun kq v8 w' => ∃ (x8_1 : Int), v8 = .int .i64 x8_1 ∧ Aside0 (impl_ImageOk.l0 kq l0_0 (l0_0.length : Int) x8_1 l0_0 = some r) ∧ Aside0 (kq ≤ k) ∧ Aside0 (w'.heap[gb647]? = some (.cells #[(.slice A0_0 l0_0.length c0_0)] 29 (0, 0))) ∧ Aside0 (Below w.heap.size w w'))
 case atStart => exact ⟨(0), (by first | rfl | (simp; done) | (simp [*]; done)), H', ⟨Nat.le_refl _⟩, ⟨kb BK647.out⟩, ⟨bw HB.out⟩⟩
 case round =>
  clear H'
  (try clear c1); (try clear p2); (try clear hcz3_0); (try clear hfz3_0)
  obtain ⟨x8_1, rfl, HA, HK1, BK647, HB⟩ := hrel
  cases gk with
  | zero => exact absurd HA.out (by simp [impl_ImageOk.l0])
  | succ k1 =>
   have H := HA.out
   clear HA
   simp only [impl_ImageOk.l0] at H
   by_cases c4 : x8_1 < (l0_0.length : Int)
   ·rw [if_pos c4] at H
    have c4b0 : decide (x8_1 < (l0_0.length : Int)) = true := decide_eq_true c4
    clear c4
    by_cases c5 : 0 ≤ x8_1
    ·rw [if_pos c5] at H
     have c5b0 : decide (0 ≤ x8_1) = true := decide_eq_true c5
     clear c5
     by_cases c6 : x8_1 < (l0_0.length : Int)
     ·rw [if_pos c6] at H
      have c6b0 : decide (x8_1 < (l0_0.length : Int)) = true := decide_eq_true c6
      clear c6
      by_cases c7 : ((rd_L2 l0_0 x8_1).length : Int) = 256
      ·rw [if_pos c7] at H
       have c7b0 : (((rd_L2 l0_0 x8_1).length : Int) == 256) = true := beq_iff_eq.mpr c7
       have c7b1 : (((rd_L2 l0_0 x8_1).length : Int) != 256) = false := bne_eq_false_iff_eq.mpr c7
       clear c7
       replace H := Option.bind_eq_some_iff.mp H
       obtain ⟨t649, A80, H⟩ := H
       replace H : (if t649 = true then (impl_ImageOk.l0 k1 l0_0 (l0_0.length : Int) (wrap64 (x8_1 + 1)) l0_0) else (some false)) = some r := H
       have A8 := Aside0.mk A80
       clear A80
       by_cases c9 : t649 = true
       ·subst c9
        have H1 : (impl_ImageOk.l0 k1 l0_0 (l0_0.length : Int) (wrap64 (x8_1 + 1)) l0_0) = some r := by rw [if_pos rfl] at H; exact H
        clear H
        have H := H1
        clear H1
        have H' := Aside0.mk H
        clear H
        have p648 : 0 ≤ (x8_1 : Int) := dt
        have q648 : x8_1 < (l0_0.length : Int) := dt
        obtain ⟨ad648, A648_0, c648_0, e648, hx648_0, hl648_0, hi648_0⟩ := at_L2 HR0_0.out x8_1 p648 q648
        cases e648
        replace hx648_0 := (HB.out.cell (World.block_lt_of_cell? w _ hx648_0)).trans hx648_0
        have HR648_0 := Aside0.mk hi648_0
        have HC648_0 := Aside0.mk hl648_0
        clear hi648_0 hl648_0
        replace p648 := eq_true p648
        replace q648 := eq_true q648
        go_wp2_with (first | (go_at_call 66; (with_reducible refine (impl_bytesOk.calls k1 _ _ (rd_L2 l0_0 x8_1) true _ ?side1 ?side2 A8.out).mono ?_); (case side1 => exact kc (Kd.C_below HR648_0.out HB.out)); (case side2 => exact HC648_0.out); rintro e w' ⟨rfl, ⟨nd, rfl⟩⟩))
        go_roundg k1
        case measure => have := HK1.out; omega
        case rel => exact ⟨(wrap64 (x8_1 + 1)), (by first | rfl | (simp; done) | (simp [*]; done)), H', ⟨by have := HK1.out; omega⟩, ⟨kb BK647.out⟩, ⟨bw HB.out⟩⟩
       ·replace c9 := Bool.eq_false_iff.mpr c9
        subst c9
        have H1 : (some false) = some r := by rw [if_neg (show ¬ (false = true) by decide)] at H; exact H
        clear H
        have H := H1
        clear H1
        obtain rfl := Option.some.inj H
        have p648 : 0 ≤ (x8_1 : Int) := dt
        have q648 : x8_1 < (l0_0.length : Int) := dt
        obtain ⟨ad648, A648_0, c648_0, e648, hx648_0, hl648_0, hi648_0⟩ := at_L2 HR0_0.out x8_1 p648 q648
        cases e648
        replace hx648_0 := (HB.out.cell (World.block_lt_of_cell? w _ hx648_0)).trans hx648_0
        have HR648_0 := Aside0.mk hi648_0
        have HC648_0 := Aside0.mk hl648_0
        clear hi648_0 hl648_0
        replace p648 := eq_true p648
        replace q648 := eq_true q648
        go_wp2_with (first | (go_at_call 66; (with_reducible refine (impl_bytesOk.calls k1 _ _ (rd_L2 l0_0 x8_1) false _ ?side1 ?side2 A8.out).mono ?_); (case side1 => exact kc (Kd.C_below HR648_0.out HB.out)); (case side2 => exact HC648_0.out); rintro e w' ⟨rfl, ⟨nd, rfl⟩⟩))
        go_ret
        exact ⟨rt, bw HB.out⟩
      ·rw [if_neg c7] at H
       have c7b0 : (((rd_L2 l0_0 x8_1).length : Int) == 256) = false := beq_eq_false_iff_ne.mpr c7
       have c7b1 : (((rd_L2 l0_0 x8_1).length : Int) != 256) = true := bne_iff_ne.mpr c7
       obtain rfl := Option.some.inj H
       have p648 : 0 ≤ (x8_1 : Int) := dt
       have q648 : x8_1 < (l0_0.length : Int) := dt
       obtain ⟨ad648, A648_0, c648_0, e648, hx648_0, hl648_0, hi648_0⟩ := at_L2 HR0_0.out x8_1 p648 q648
       cases e648
       replace hx648_0 := (HB.out.cell (World.block_lt_of_cell? w _ hx648_0)).trans hx648_0
       have HR648_0 := Aside0.mk hi648_0
       have HC648_0 := Aside0.mk hl648_0
       clear hi648_0 hl648_0
       replace p648 := eq_true p648
       replace q648 := eq_true q648
       go_wp2
       go_ret
       exact ⟨rt, bw HB.out⟩
     ·rw [if_neg c6] at H
      exact absurd H (by simp)
    ·rw [if_neg c5] at H
     exact absurd H (by simp)
   ·rw [if_neg c4] at H
    have c4b0 : decide (x8_1 < (l0_0.length : Int)) = false := decide_eq_false c4
    clear c4
    replace H := Option.bind_eq_some_iff.mp H
    obtain ⟨t650, A100, H⟩ := H
    replace H : (some t650) = some r := H
    have A10 := Aside0.mk A100
    clear A100
    obtain rfl := Option.some.inj H
    have hcz11_0 : wr.cell? ⟨gb647, 0, none⟩ = some (.slice A0_0 l0_0.length c0_0) := cl BK647 0
    have hfz11_0 := blk_frozen BK647.out 0
    go_wp2_with (first | ((with_reducible refine gate_callee (f := 67) rfl ?_); refine goesM_ (some 24) rfl rfl Try.func67 #[.int .i64 (l0_0.length : Int), .int .i64 1, .int .i64 8] ?_; (with_reducible refine (impl_within.calls (l0_0.length : Int) 1 8 t650 _ A10.out).mono ?_); rintro e w' ⟨rfl, ⟨nd, rfl⟩⟩; refine ⟨_, rfl, ?_⟩))
    go_ret
    exact ⟨rt, bw HB.out⟩

/-! ### impl_MemOk: function 32 -/
def impl_MemOk.f (k : Nat) (l0_0 : List (List Int)) (l1_0 : List Int) (a1_1 : Int) : Option (Bool) := (impl_ImageOk.f k l0_0).bind fun t653 => (if t653 = true then (if (l1_0.length : Int) = 512 then ((impl_bytesOk.f k l1_0).bind fun t654 => (if t654 = true then ((impl_within.f a1_1 0 (wrap64 ((l0_0.length : Int) - 1))).bind fun t655 => (some t655)) else (some false))) else (some false)) else (some false))
set_option maxHeartbeats 8000000 in
set_option maxRecDepth 100000 in
theorem impl_MemOk.calls (k : Nat) (A0_0 : Option Addr) (c0_0 : Nat) (l0_0 : List (List Int)) (A1_0 : Option Addr) (c1_0 : Nat) (l1_0 : List Int) (a1_1 : Int) (r : Bool) (w : World) (hr0_0 : Kd.C (Kd.slice 3 (Kd.int .i64)) w A0_0 l0_0.length l0_0) (hc0_0 : l0_0.length ≤ c0_0) (hr1_0 : Kd.C (Kd.int .i64) w A1_0 l1_0.length l1_0) (hc1_0 : l1_0.length ≤ c1_0) (h : impl_MemOk.f k l0_0 l1_0 a1_1 = some r) :
  Calls Try.prog 32 #[.agg #[.slice A0_0 l0_0.length c0_0], .agg #[.slice A1_0 l1_0.length c1_0, .int .i64 a1_1]] w fun e w' => e = .returned (.bool r) ∧ Below w.heap.size w w' := by
 have hu29 := Try.underlying29
 have hu32 := Try.underlying32
 have HR0_0 := Aside0.mk hr0_0
 have HC0_0 := Aside0.mk hc0_0
 clear hr0_0 hc0_0
 have HR1_0 := Aside0.mk hr1_0
 have HC1_0 := Aside0.mk hc1_0
 clear hr1_0 hc1_0
 have HB := Aside0.mk (Below.refl w.heap.size w)
 have H : ((impl_ImageOk.f k l0_0).bind fun t653 => (if t653 = true then (if (l1_0.length : Int) = 512 then ((impl_bytesOk.f k l1_0).bind fun t654 => (if t654 = true then ((impl_within.f a1_1 0 (wrap64 ((l0_0.length : Int) - 1))).bind fun t655 => (some t655)) else (some false))) else (some false)) else (some false))) = some r := h
 clear h
 replace H := Option.bind_eq_some_iff.mp H
 obtain ⟨t653, A30, H⟩ := H
 replace H : (if t653 = true then (if (l1_0.length : Int) = 512 then ((impl_bytesOk.f k l1_0).bind fun t654 => (if t654 = true then ((impl_within.f a1_1 0 (wrap64 ((l0_0.length : Int) - 1))).bind fun t655 => (some t655)) else (some false))) else (some false)) else (some false)) = some r := H
 have A3 := Aside0.mk A30
 clear A30
 by_cases c4 : t653 = true
 ·subst c4
  have H1 : (if (l1_0.length : Int) = 512 then ((impl_bytesOk.f k l1_0).bind fun t654 => (if t654 = true then ((impl_within.f a1_1 0 (wrap64 ((l0_0.length : Int) - 1))).bind fun t655 => (some t655)) else (some false))) else (some false)) = some r := by rw [if_pos rfl] at H; exact H
  clear H
  have H := H1
  clear H1
  by_cases c5 : (l1_0.length : Int) = 512
  ·rw [if_pos c5] at H
   have c5b0 : ((l1_0.length : Int) == 512) = true := beq_iff_eq.mpr c5
   have c5b1 : ((l1_0.length : Int) != 512) = false := bne_eq_false_iff_eq.mpr c5
   clear c5
   replace H := Option.bind_eq_some_iff.mp H
   obtain ⟨t654, A60, H⟩ := H
   replace H : (if t654 = true then ((impl_within.f a1_1 0 (wrap64 ((l0_0.length : Int) - 1))).bind fun t655 => (some t655)) else (some false)) = some r := H
   have A6 := Aside0.mk A60
   clear A60
   by_cases c7 : t654 = true
   ·subst c7
    have H1 : ((impl_within.f a1_1 0 (wrap64 ((l0_0.length : Int) - 1))).bind fun t655 => (some t655)) = some r := by rw [if_pos rfl] at H; exact H
    clear H
    have H := H1
    clear H1
    replace H := Option.bind_eq_some_iff.mp H
    obtain ⟨t655, A80, H⟩ := H
    replace H : (some t655) = some r := H
    have A8 := Aside0.mk A80
    clear A80
    obtain rfl := Option.some.inj H
    go_enter Try.func32, Try.ntmps32
    go_wp2_with (first | ((with_reducible refine gate_dst (N := 2) rfl ?_); (try (refine gate_guard (by rfl) ?_; dsimp only)); refine bx (N := 2) (cs := #[.slice A0_0 l0_0.length c0_0]) (t := 29) ?_; intro gb651 hg w9 hbox hb; have BK651 := Aside0.mk (hbox); have GW651 := Aside0.mk ((gs hg (bw HB.out))); have GE651 := Aside0.mk ((gs hg (bw HB.out))); replace HB := Aside0.mk (below_step (bw HB.out) hb); clear hb hbox hg) | ((with_reducible refine gate_dst (N := 3) rfl ?_); (try (refine gate_guard (by rfl) ?_; dsimp only)); refine bx (N := 3) (cs := #[.slice A1_0 l1_0.length c1_0, .int .i64 a1_1]) (t := 32) ?_; intro gb652 hg w10 hbox hb; have BK652 := Aside0.mk (hbox); have GW652 := Aside0.mk ((gs hg (bw HB.out))); have GE652 := Aside0.mk ((gs hg (bw HB.out))); replace HB := Aside0.mk (below_step (bw HB.out) hb); have NB651_652 := Aside0.mk ((ga hg BK651.out)); have NB652_651 := Aside0.mk ((gc hg BK651.out)); replace BK651 := Aside0.mk (bb BK651 hb); clear hb hbox hg; have hnb11 := NB651_652.out; have hnc11 := NB652_651.out; have hcz12_0 : w10.cell? ⟨gb651, 0, none⟩ = some (.slice A0_0 l0_0.length c0_0) := cl BK651 0; have hfz12_0 := blk_frozen BK651.out 0) | ((with_reducible refine gate_callee (f := 19) rfl ?_); refine goesM_ (some 6) rfl rfl Try.func19 #[.agg #[.slice A0_0 l0_0.length c0_0]] ?_; (with_reducible refine (impl_ImageOk.calls k _ _ l0_0 true _ ?side1 ?side2 A3.out).mono ?_); (case side1 => exact kc (Kd.C_below HR0_0.out HB.out)); (case side2 => exact HC0_0.out); rintro e w13 ⟨rfl, hb⟩; refine ⟨_, rfl, ?_⟩; replace BK651 := Aside0.mk (bb BK651 hb); replace BK652 := Aside0.mk (bb BK652 hb); replace HB := Aside0.mk (below_step (bw HB.out) hb); (try clear hb); (try clear hb2); (try clear hk); (try clear hi); obtain ⟨hcz14_0, hcz14_1⟩ := ce2 BK652; have hfz14_0 := blk_frozen BK652.out 0; have hfz14_1 := blk_frozen BK652.out 1) | (go_at_call 66; (with_reducible refine (impl_bytesOk.calls k _ _ l1_0 true _ ?side1 ?side2 A6.out).mono ?_); (case side1 => exact kc (Kd.C_below HR1_0.out HB.out)); (case side2 => exact HC1_0.out); rintro e w' ⟨rfl, ⟨nd, rfl⟩⟩; have hcz15_0 : w13.cell? ⟨gb651, 0, none⟩ = some (.slice A0_0 l0_0.length c0_0) := cl BK651 0; have hfz15_0 := blk_frozen BK651.out 0) | (go_at_call 67; (with_reducible refine (impl_within.calls a1_1 0 (wrap64 ((l0_0.length : Int) - 1)) t655 _ A8.out).mono ?_); rintro e w' ⟨rfl, ⟨nd, rfl⟩⟩))
    go_ret
    exact ⟨rt, bw HB.out⟩
   ·replace c7 := Bool.eq_false_iff.mpr c7
    subst c7
    have H1 : (some false) = some r := by rw [if_neg (show ¬ (false = true) by decide)] at H; exact H
    clear H
    have H := H1
    clear H1
    obtain rfl := Option.some.inj H
    go_enter Try.func32, Try.ntmps32
    go_wp2_with (first | ((with_reducible refine gate_dst (N := 2) rfl ?_); (try (refine gate_guard (by rfl) ?_; dsimp only)); refine bx (N := 2) (cs := #[.slice A0_0 l0_0.length c0_0]) (t := 29) ?_; intro gb651 hg w16 hbox hb; have BK651 := Aside0.mk (hbox); have GW651 := Aside0.mk ((gs hg (bw HB.out))); have GE651 := Aside0.mk ((gs hg (bw HB.out))); replace HB := Aside0.mk (below_step (bw HB.out) hb); clear hb hbox hg) | ((with_reducible refine gate_dst (N := 3) rfl ?_); (try (refine gate_guard (by rfl) ?_; dsimp only)); refine bx (N := 3) (cs := #[.slice A1_0 l1_0.length c1_0, .int .i64 a1_1]) (t := 32) ?_; intro gb652 hg w17 hbox hb; have BK652 := Aside0.mk (hbox); have GW652 := Aside0.mk ((gs hg (bw HB.out))); have GE652 := Aside0.mk ((gs hg (bw HB.out))); replace HB := Aside0.mk (below_step (bw HB.out) hb); have NB651_652 := Aside0.mk ((ga hg BK651.out)); have NB652_651 := Aside0.mk ((gc hg BK651.out)); replace BK651 := Aside0.mk (bb BK651 hb); clear hb hbox hg; have hnb18 := NB651_652.out; have hnc18 := NB652_651.out; have hcz19_0 : w17.cell? ⟨gb651, 0, none⟩ = some (.slice A0_0 l0_0.length c0_0) := cl BK651 0; have hfz19_0 := blk_frozen BK651.out 0) | ((with_reducible refine gate_callee (f := 19) rfl ?_); refine goesM_ (some 6) rfl rfl Try.func19 #[.agg #[.slice A0_0 l0_0.length c0_0]] ?_; (with_reducible refine (impl_ImageOk.calls k _ _ l0_0 true _ ?side1 ?side2 A3.out).mono ?_); (case side1 => exact kc (Kd.C_below HR0_0.out HB.out)); (case side2 => exact HC0_0.out); rintro e w20 ⟨rfl, hb⟩; refine ⟨_, rfl, ?_⟩; replace BK651 := Aside0.mk (bb BK651 hb); replace BK652 := Aside0.mk (bb BK652 hb); replace HB := Aside0.mk (below_step (bw HB.out) hb); (try clear hb); (try clear hb2); (try clear hk); (try clear hi); obtain ⟨hcz21_0, hcz21_1⟩ := ce2 BK652; have hfz21_0 := blk_frozen BK652.out 0; have hfz21_1 := blk_frozen BK652.out 1) | (go_at_call 66; (with_reducible refine (impl_bytesOk.calls k _ _ l1_0 false _ ?side1 ?side2 A6.out).mono ?_); (case side1 => exact kc (Kd.C_below HR1_0.out HB.out)); (case side2 => exact HC1_0.out); rintro e w' ⟨rfl, ⟨nd, rfl⟩⟩))
    go_ret
    exact ⟨rt, bw HB.out⟩
  ·rw [if_neg c5] at H
   have c5b0 : ((l1_0.length : Int) == 512) = false := beq_eq_false_iff_ne.mpr c5
   have c5b1 : ((l1_0.length : Int) != 512) = true := bne_iff_ne.mpr c5
   obtain rfl := Option.some.inj H
   go_enter Try.func32, Try.ntmps32
   go_wp2_with (first | ((with_reducible refine gate_dst (N := 2) rfl ?_); (try (refine gate_guard (by rfl) ?_; dsimp only)); refine bx (N := 2) (cs := #[.slice A0_0 l0_0.length c0_0]) (t := 29) ?_; intro gb651 hg w22 hbox hb; have BK651 := Aside0.mk (hbox); have GW651 := Aside0.mk ((gs hg (bw HB.out))); have GE651 := Aside0.mk ((gs hg (bw HB.out))); replace HB := Aside0.mk (below_step (bw HB.out) hb); clear hb hbox hg) | ((with_reducible refine gate_dst (N := 3) rfl ?_); (try (refine gate_guard (by rfl) ?_; dsimp only)); refine bx (N := 3) (cs := #[.slice A1_0 l1_0.length c1_0, .int .i64 a1_1]) (t := 32) ?_; intro gb652 hg w23 hbox hb; have BK652 := Aside0.mk (hbox); have GW652 := Aside0.mk ((gs hg (bw HB.out))); have GE652 := Aside0.mk ((gs hg (bw HB.out))); replace HB := Aside0.mk (below_step (bw HB.out) hb); have NB651_652 := Aside0.mk ((ga hg BK651.out)); have NB652_651 := Aside0.mk ((gc hg BK651.out)); replace BK651 := Aside0.mk (bb BK651 hb); clear hb hbox hg; have hnb24 := NB651_652.out; have hnc24 := NB652_651.out; have hcz25_0 : w23.cell? ⟨gb651, 0, none⟩ = some (.slice A0_0 l0_0.length c0_0) := cl BK651 0; have hfz25_0 := blk_frozen BK651.out 0) | ((with_reducible refine gate_callee (f := 19) rfl ?_); refine goesM_ (some 6) rfl rfl Try.func19 #[.agg #[.slice A0_0 l0_0.length c0_0]] ?_; (with_reducible refine (impl_ImageOk.calls k _ _ l0_0 true _ ?side1 ?side2 A3.out).mono ?_); (case side1 => exact kc (Kd.C_below HR0_0.out HB.out)); (case side2 => exact HC0_0.out); rintro e w26 ⟨rfl, hb⟩; refine ⟨_, rfl, ?_⟩; replace BK651 := Aside0.mk (bb BK651 hb); replace BK652 := Aside0.mk (bb BK652 hb); replace HB := Aside0.mk (below_step (bw HB.out) hb); (try clear hb); (try clear hb2); (try clear hk); (try clear hi); obtain ⟨hcz27_0, hcz27_1⟩ := ce2 BK652; have hfz27_0 := blk_frozen BK652.out 0; have hfz27_1 := blk_frozen BK652.out 1))
   go_ret
   exact ⟨rt, bw HB.out⟩
 ·replace c4 := Bool.eq_false_iff.mpr c4
  subst c4
  have H1 : (some false) = some r := by rw [if_neg (show ¬ (false = true) by decide)] at H; exact H
  clear H
  have H := H1
  clear H1
  obtain rfl := Option.some.inj H
  go_enter Try.func32, Try.ntmps32
  go_wp2_with (first | ((with_reducible refine gate_dst (N := 2) rfl ?_); (try (refine gate_guard (by rfl) ?_; dsimp only)); refine bx (N := 2) (cs := #[.slice A0_0 l0_0.length c0_0]) (t := 29) ?_; intro gb651 hg w28 hbox hb; have BK651 := Aside0.mk (hbox); have GW651 := Aside0.mk ((gs hg (bw HB.out))); have GE651 := Aside0.mk ((gs hg (bw HB.out))); replace HB := Aside0.mk (below_step (bw HB.out) hb); clear hb hbox hg) | ((with_reducible refine gate_dst (N := 3) rfl ?_); (try (refine gate_guard (by rfl) ?_; dsimp only)); refine bx (N := 3) (cs := #[.slice A1_0 l1_0.length c1_0, .int .i64 a1_1]) (t := 32) ?_; intro gb652 hg w29 hbox hb; have BK652 := Aside0.mk (hbox); have GW652 := Aside0.mk ((gs hg (bw HB.out))); have GE652 := Aside0.mk ((gs hg (bw HB.out))); replace HB := Aside0.mk (below_step (bw HB.out) hb); have NB651_652 := Aside0.mk ((ga hg BK651.out)); have NB652_651 := Aside0.mk ((gc hg BK651.out)); replace BK651 := Aside0.mk (bb BK651 hb); clear hb hbox hg; have hnb30 := NB651_652.out; have hnc30 := NB652_651.out; have hcz31_0 : w29.cell? ⟨gb651, 0, none⟩ = some (.slice A0_0 l0_0.length c0_0) := cl BK651 0; have hfz31_0 := blk_frozen BK651.out 0) | ((with_reducible refine gate_callee (f := 19) rfl ?_); refine goesM_ (some 6) rfl rfl Try.func19 #[.agg #[.slice A0_0 l0_0.length c0_0]] ?_; (with_reducible refine (impl_ImageOk.calls k _ _ l0_0 false _ ?side1 ?side2 A3.out).mono ?_); (case side1 => exact kc (Kd.C_below HR0_0.out HB.out)); (case side2 => exact HC0_0.out); rintro e w32 ⟨rfl, hb⟩; refine ⟨_, rfl, ?_⟩; replace BK651 := Aside0.mk (bb BK651 hb); replace BK652 := Aside0.mk (bb BK652 hb); replace HB := Aside0.mk (below_step (bw HB.out) hb); (try clear hb); (try clear hb2); (try clear hk); (try clear hi)))
  go_ret
  exact ⟨rt, bw HB.out⟩

/-! ### impl_Region: function 11 -/
def impl_Region.f (a0 : Int) : Option (Int × Int) := (impl_Addr.f a0).bind fun t656 => (if t656 < 8192 then (some (1, Int.tmod t656 512)) else (if t656 < 16384 then (some (2, Int.tmod t656 8)) else (if t656 < 16388 then (some (3, Int.tmod t656 4)) else (if t656 = 16406 then (some (4, 0)) else (if t656 < 32768 then (some (7, 0)) else (if t656 < 49152 then (some (5, Int.tmod t656 256)) else (some (6, Int.tmod t656 256))))))))
set_option maxHeartbeats 8000000 in
set_option maxRecDepth 100000 in
theorem impl_Region.calls (a0 : Int) (r1 : Int) (r2 : Int) (w : World) (h : impl_Region.f a0 = some (r1, r2)) :
  Calls Try.prog 11 #[.int .i64 a0] w fun e w' => e = .returned (.tuple #[.int .i64 r1, .int .i64 r2]) ∧ Drawn0 w w' := by
 have H : ((impl_Addr.f a0).bind fun t656 => (if t656 < 8192 then (some (1, Int.tmod t656 512)) else (if t656 < 16384 then (some (2, Int.tmod t656 8)) else (if t656 < 16388 then (some (3, Int.tmod t656 4)) else (if t656 = 16406 then (some (4, 0)) else (if t656 < 32768 then (some (7, 0)) else (if t656 < 49152 then (some (5, Int.tmod t656 256)) else (some (6, Int.tmod t656 256))))))))) = some (r1, r2) := h
 clear h
 replace H := Option.bind_eq_some_iff.mp H
 obtain ⟨t656, A20, H⟩ := H
 replace H : (if t656 < 8192 then (some (1, Int.tmod t656 512)) else (if t656 < 16384 then (some (2, Int.tmod t656 8)) else (if t656 < 16388 then (some (3, Int.tmod t656 4)) else (if t656 = 16406 then (some (4, 0)) else (if t656 < 32768 then (some (7, 0)) else (if t656 < 49152 then (some (5, Int.tmod t656 256)) else (some (6, Int.tmod t656 256)))))))) = some (r1, r2) := H
 have A2 := Aside0.mk A20
 clear A20
 by_cases c3 : t656 < 8192
 ·rw [if_pos c3] at H
  have c3b0 : decide (t656 < 8192) = true := decide_eq_true c3
  clear c3
  simp only [Option.some.injEq, Prod.mk.injEq] at H
  obtain ⟨rfl, rfl⟩ := H
  go_enter Try.func11, Try.ntmps11
  go_wp2_with (first | ((with_reducible refine gate_callee (f := 52) rfl ?_); refine goesM_ (some 5) rfl rfl Try.func52 #[.int .i64 a0] ?_; (with_reducible refine (impl_Addr.calls a0 t656 _ A2.out).mono ?_); rintro e w' ⟨rfl, ⟨nd, rfl⟩⟩; refine ⟨_, rfl, ?_⟩))
  go_ret2
  exact ⟨by first | rfl | (simp; done) | (simp [*]; done), by repeat (first | exact Drawn0.refl _ | apply Drawn0.step)⟩
 ·rw [if_neg c3] at H
  have c3b0 : decide (t656 < 8192) = false := decide_eq_false c3
  clear c3
  by_cases c4 : t656 < 16384
  ·rw [if_pos c4] at H
   have c4b0 : decide (t656 < 16384) = true := decide_eq_true c4
   clear c4
   simp only [Option.some.injEq, Prod.mk.injEq] at H
   obtain ⟨rfl, rfl⟩ := H
   go_enter Try.func11, Try.ntmps11
   go_wp2_with (first | ((with_reducible refine gate_callee (f := 52) rfl ?_); refine goesM_ (some 5) rfl rfl Try.func52 #[.int .i64 a0] ?_; (with_reducible refine (impl_Addr.calls a0 t656 _ A2.out).mono ?_); rintro e w' ⟨rfl, ⟨nd, rfl⟩⟩; refine ⟨_, rfl, ?_⟩))
   go_ret2
   exact ⟨by first | rfl | (simp; done) | (simp [*]; done), by repeat (first | exact Drawn0.refl _ | apply Drawn0.step)⟩
  ·rw [if_neg c4] at H
   have c4b0 : decide (t656 < 16384) = false := decide_eq_false c4
   clear c4
   by_cases c5 : t656 < 16388
   ·rw [if_pos c5] at H
    have c5b0 : decide (t656 < 16388) = true := decide_eq_true c5
    clear c5
    simp only [Option.some.injEq, Prod.mk.injEq] at H
    obtain ⟨rfl, rfl⟩ := H
    go_enter Try.func11, Try.ntmps11
    go_wp2_with (first | ((with_reducible refine gate_callee (f := 52) rfl ?_); refine goesM_ (some 5) rfl rfl Try.func52 #[.int .i64 a0] ?_; (with_reducible refine (impl_Addr.calls a0 t656 _ A2.out).mono ?_); rintro e w' ⟨rfl, ⟨nd, rfl⟩⟩; refine ⟨_, rfl, ?_⟩))
    go_ret2
    exact ⟨by first | rfl | (simp; done) | (simp [*]; done), by repeat (first | exact Drawn0.refl _ | apply Drawn0.step)⟩
   ·rw [if_neg c5] at H
    have c5b0 : decide (t656 < 16388) = false := decide_eq_false c5
    clear c5
    by_cases c6 : t656 = 16406
    ·rw [if_pos c6] at H
     have c6b0 : (t656 == 16406) = true := beq_iff_eq.mpr c6
     have c6b1 : (t656 != 16406) = false := bne_eq_false_iff_eq.mpr c6
     clear c6
     simp only [Option.some.injEq, Prod.mk.injEq] at H
     obtain ⟨rfl, rfl⟩ := H
     go_enter Try.func11, Try.ntmps11
     go_wp2_with (first | ((with_reducible refine gate_callee (f := 52) rfl ?_); refine goesM_ (some 5) rfl rfl Try.func52 #[.int .i64 a0] ?_; (with_reducible refine (impl_Addr.calls a0 t656 _ A2.out).mono ?_); rintro e w' ⟨rfl, ⟨nd, rfl⟩⟩; refine ⟨_, rfl, ?_⟩))
     go_ret2
     exact ⟨by first | rfl | (simp; done) | (simp [*]; done), by repeat (first | exact Drawn0.refl _ | apply Drawn0.step)⟩
    ·rw [if_neg c6] at H
     have c6b0 : (t656 == 16406) = false := beq_eq_false_iff_ne.mpr c6
     have c6b1 : (t656 != 16406) = true := bne_iff_ne.mpr c6
     by_cases c7 : t656 < 32768
     ·rw [if_pos c7] at H
      have c7b0 : decide (t656 < 32768) = true := decide_eq_true c7
      clear c7
      simp only [Option.some.injEq, Prod.mk.injEq] at H
      obtain ⟨rfl, rfl⟩ := H
      go_enter Try.func11, Try.ntmps11
      go_wp2_with (first | ((with_reducible refine gate_callee (f := 52) rfl ?_); refine goesM_ (some 5) rfl rfl Try.func52 #[.int .i64 a0] ?_; (with_reducible refine (impl_Addr.calls a0 t656 _ A2.out).mono ?_); rintro e w' ⟨rfl, ⟨nd, rfl⟩⟩; refine ⟨_, rfl, ?_⟩))
      go_ret2
      exact ⟨by first | rfl | (simp; done) | (simp [*]; done), by repeat (first | exact Drawn0.refl _ | apply Drawn0.step)⟩
     ·rw [if_neg c7] at H
      have c7b0 : decide (t656 < 32768) = false := decide_eq_false c7
      clear c7
      by_cases c8 : t656 < 49152
      ·rw [if_pos c8] at H
       have c8b0 : decide (t656 < 49152) = true := decide_eq_true c8
       clear c8
       simp only [Option.some.injEq, Prod.mk.injEq] at H
       obtain ⟨rfl, rfl⟩ := H
       go_enter Try.func11, Try.ntmps11
       go_wp2_with (first | ((with_reducible refine gate_callee (f := 52) rfl ?_); refine goesM_ (some 5) rfl rfl Try.func52 #[.int .i64 a0] ?_; (with_reducible refine (impl_Addr.calls a0 t656 _ A2.out).mono ?_); rintro e w' ⟨rfl, ⟨nd, rfl⟩⟩; refine ⟨_, rfl, ?_⟩))
       go_ret2
       exact ⟨by first | rfl | (simp; done) | (simp [*]; done), by repeat (first | exact Drawn0.refl _ | apply Drawn0.step)⟩
      ·rw [if_neg c8] at H
       have c8b0 : decide (t656 < 49152) = false := decide_eq_false c8
       clear c8
       simp only [Option.some.injEq, Prod.mk.injEq] at H
       obtain ⟨rfl, rfl⟩ := H
       go_enter Try.func11, Try.ntmps11
       go_wp2_with (first | ((with_reducible refine gate_callee (f := 52) rfl ?_); refine goesM_ (some 5) rfl rfl Try.func52 #[.int .i64 a0] ?_; (with_reducible refine (impl_Addr.calls a0 t656 _ A2.out).mono ?_); rintro e w' ⟨rfl, ⟨nd, rfl⟩⟩; refine ⟨_, rfl, ?_⟩))
       go_ret2
       exact ⟨by first | rfl | (simp; done) | (simp [*]; done), by repeat (first | exact Drawn0.refl _ | apply Drawn0.step)⟩

/-! ### impl_peek: function 63 -/
def impl_peek.f (l0_0 : List (List Int)) (l1_0 : List Int) (a1_1 : Int) (a2 : Int) : Option (Int) := (impl_Region.f a2).bind fun bt659 => (if bt659.1 = 1 then (if 0 ≤ bt659.2 then (if bt659.2 < (l1_0.length : Int) then (some (rd l1_0 bt659.2)) else (none)) else (none)) else (if bt659.1 = 5 then (if 0 ≤ a1_1 then (if a1_1 < (l0_0.length : Int) then (if 0 ≤ bt659.2 then (if bt659.2 < ((rd_L2 l0_0 a1_1).length : Int) then (some (rd (rd_L2 l0_0 a1_1) bt659.2)) else (none)) else (none)) else (none)) else (none)) else (if bt659.1 = 6 then (if 0 ≤ (wrap64 ((l0_0.length : Int) - 1)) then (if (wrap64 ((l0_0.length : Int) - 1)) < (l0_0.length : Int) then (if 0 ≤ bt659.2 then (if bt659.2 < ((rd_L2 l0_0 (wrap64 ((l0_0.length : Int) - 1))).length : Int) then (some (rd (rd_L2 l0_0 (wrap64 ((l0_0.length : Int) - 1))) bt659.2)) else (none)) else (none)) else (none)) else (none)) else (some 0))))
set_option maxHeartbeats 8000000 in
set_option maxRecDepth 100000 in
theorem impl_peek.calls (A0_0 : Option Addr) (c0_0 : Nat) (l0_0 : List (List Int)) (A1_0 : Option Addr) (c1_0 : Nat) (l1_0 : List Int) (a1_1 : Int) (a2 : Int) (r : Int) (w : World) (hr0_0 : Kd.C (Kd.slice 3 (Kd.int .i64)) w A0_0 l0_0.length l0_0) (hc0_0 : l0_0.length ≤ c0_0) (hr1_0 : Kd.C (Kd.int .i64) w A1_0 l1_0.length l1_0) (hc1_0 : l1_0.length ≤ c1_0) (h : impl_peek.f l0_0 l1_0 a1_1 a2 = some r) :
  Calls Try.prog 63 #[.agg #[.slice A0_0 l0_0.length c0_0], .agg #[.slice A1_0 l1_0.length c1_0, .int .i64 a1_1], .int .i64 a2] w fun e w' => e = .returned (.int .i64 r) ∧ Below w.heap.size w w' := by
 have hu29 := Try.underlying29
 have hu32 := Try.underlying32
 have HR0_0 := Aside0.mk hr0_0
 have HC0_0 := Aside0.mk hc0_0
 clear hr0_0 hc0_0
 have HR1_0 := Aside0.mk hr1_0
 have HC1_0 := Aside0.mk hc1_0
 clear hr1_0 hc1_0
 have HB := Aside0.mk (Below.refl w.heap.size w)
 have H : ((impl_Region.f a2).bind fun bt659 => (if bt659.1 = 1 then (if 0 ≤ bt659.2 then (if bt659.2 < (l1_0.length : Int) then (some (rd l1_0 bt659.2)) else (none)) else (none)) else (if bt659.1 = 5 then (if 0 ≤ a1_1 then (if a1_1 < (l0_0.length : Int) then (if 0 ≤ bt659.2 then (if bt659.2 < ((rd_L2 l0_0 a1_1).length : Int) then (some (rd (rd_L2 l0_0 a1_1) bt659.2)) else (none)) else (none)) else (none)) else (none)) else (if bt659.1 = 6 then (if 0 ≤ (wrap64 ((l0_0.length : Int) - 1)) then (if (wrap64 ((l0_0.length : Int) - 1)) < (l0_0.length : Int) then (if 0 ≤ bt659.2 then (if bt659.2 < ((rd_L2 l0_0 (wrap64 ((l0_0.length : Int) - 1))).length : Int) then (some (rd (rd_L2 l0_0 (wrap64 ((l0_0.length : Int) - 1))) bt659.2)) else (none)) else (none)) else (none)) else (none)) else (some 0))))) = some r := h
 clear h
 replace H := Option.bind_eq_some_iff.mp H
 obtain ⟨⟨t659, t660⟩, A40, H⟩ := H
 replace H : (if t659 = 1 then (if 0 ≤ t660 then (if t660 < (l1_0.length : Int) then (some (rd l1_0 t660)) else (none)) else (none)) else (if t659 = 5 then (if 0 ≤ a1_1 then (if a1_1 < (l0_0.length : Int) then (if 0 ≤ t660 then (if t660 < ((rd_L2 l0_0 a1_1).length : Int) then (some (rd (rd_L2 l0_0 a1_1) t660)) else (none)) else (none)) else (none)) else (none)) else (if t659 = 6 then (if 0 ≤ (wrap64 ((l0_0.length : Int) - 1)) then (if (wrap64 ((l0_0.length : Int) - 1)) < (l0_0.length : Int) then (if 0 ≤ t660 then (if t660 < ((rd_L2 l0_0 (wrap64 ((l0_0.length : Int) - 1))).length : Int) then (some (rd (rd_L2 l0_0 (wrap64 ((l0_0.length : Int) - 1))) t660)) else (none)) else (none)) else (none)) else (none)) else (some 0)))) = some r := H
 have A4 := Aside0.mk A40
 clear A40
 by_cases c5 : t659 = 1
 ·rw [if_pos c5] at H
  have c5b0 : (t659 == 1) = true := beq_iff_eq.mpr c5
  have c5b1 : (t659 != 1) = false := bne_eq_false_iff_eq.mpr c5
  clear c5
  by_cases c6 : 0 ≤ t660
  ·rw [if_pos c6] at H
   have c6b0 : decide (0 ≤ t660) = true := decide_eq_true c6
   clear c6
   by_cases c7 : t660 < (l1_0.length : Int)
   ·rw [if_pos c7] at H
    have c7b0 : decide (t660 < (l1_0.length : Int)) = true := decide_eq_true c7
    clear c7
    obtain rfl := Option.some.inj H
    go_enter Try.func63, Try.ntmps63
    go_wp2_with (first | ((with_reducible refine gate_dst (N := 3) rfl ?_); refine bx (N := 3) (cs := #[.slice A0_0 l0_0.length c0_0]) (t := 29) ?_; intro gb657 hg w8 hbox hb; have BK657 := Aside0.mk (hbox); have GW657 := Aside0.mk ((gs hg (bw HB.out))); have GE657 := Aside0.mk ((gs hg (bw HB.out))); replace HB := Aside0.mk (below_step (bw HB.out) hb); clear hb hbox hg) | ((with_reducible refine gate_dst (N := 4) rfl ?_); refine bx (N := 4) (cs := #[.slice A1_0 l1_0.length c1_0, .int .i64 a1_1]) (t := 32) ?_; intro gb658 hg w9 hbox hb; have BK658 := Aside0.mk (hbox); have GW658 := Aside0.mk ((gs hg (bw HB.out))); have GE658 := Aside0.mk ((gs hg (bw HB.out))); replace HB := Aside0.mk (below_step (bw HB.out) hb); have NB657_658 := Aside0.mk ((ga hg BK657.out)); have NB658_657 := Aside0.mk ((gc hg BK657.out)); replace BK657 := Aside0.mk (bb BK657 hb); clear hb hbox hg) | ((with_reducible refine gate_callee (f := 11) rfl ?_); refine goesM_ (some 11) rfl rfl Try.func11 #[.int .i64 a2] ?_; (with_reducible refine (impl_Region.calls a2 t659 t660 _ A4.out).mono ?_); rintro e w' ⟨rfl, ⟨nd, rfl⟩⟩; refine ⟨_, rfl, ?_⟩; have hnb10 := NB658_657.out; have hnc10 := NB657_658.out; obtain ⟨hcz11_0, hcz11_1⟩ := ce2 BK658; obtain ⟨hfz11_0, hfz11_1⟩ := fz2 BK658; have p661 : 0 ≤ (t660 : Int) := dt; have q661 : t660 < (l1_0.length : Int) := dt; obtain ⟨ad661, e661, hx661_0⟩ := Kd.at_int HR1_0.out t660 p661 q661; cases e661; replace hx661_0 := (HB.out.cell (World.block_lt_of_cell? w _ hx661_0)).trans hx661_0; replace p661 := eq_true p661; replace q661 := eq_true q661))
    go_ret
    exact ⟨rt, bw HB.out⟩
   ·rw [if_neg c7] at H
    exact absurd H (by simp)
  ·rw [if_neg c6] at H
   exact absurd H (by simp)
 ·rw [if_neg c5] at H
  have c5b0 : (t659 == 1) = false := beq_eq_false_iff_ne.mpr c5
  have c5b1 : (t659 != 1) = true := bne_iff_ne.mpr c5
  by_cases c12 : t659 = 5
  ·rw [if_pos c12] at H
   have c12b0 : (t659 == 5) = true := beq_iff_eq.mpr c12
   have c12b1 : (t659 != 5) = false := bne_eq_false_iff_eq.mpr c12
   clear c12
   by_cases c13 : 0 ≤ a1_1
   ·rw [if_pos c13] at H
    have c13b0 : decide (0 ≤ a1_1) = true := decide_eq_true c13
    clear c13
    by_cases c14 : a1_1 < (l0_0.length : Int)
    ·rw [if_pos c14] at H
     have c14b0 : decide (a1_1 < (l0_0.length : Int)) = true := decide_eq_true c14
     clear c14
     by_cases c15 : 0 ≤ t660
     ·rw [if_pos c15] at H
      have c15b0 : decide (0 ≤ t660) = true := decide_eq_true c15
      clear c15
      by_cases c16 : t660 < ((rd_L2 l0_0 a1_1).length : Int)
      ·rw [if_pos c16] at H
       have c16b0 : decide (t660 < ((rd_L2 l0_0 a1_1).length : Int)) = true := decide_eq_true c16
       clear c16
       obtain rfl := Option.some.inj H
       go_enter Try.func63, Try.ntmps63
       go_wp2_with (first | ((with_reducible refine gate_dst (N := 3) rfl ?_); refine bx (N := 3) (cs := #[.slice A0_0 l0_0.length c0_0]) (t := 29) ?_; intro gb657 hg w17 hbox hb; have BK657 := Aside0.mk (hbox); have GW657 := Aside0.mk ((gs hg (bw HB.out))); have GE657 := Aside0.mk ((gs hg (bw HB.out))); replace HB := Aside0.mk (below_step (bw HB.out) hb); clear hb hbox hg) | ((with_reducible refine gate_dst (N := 4) rfl ?_); refine bx (N := 4) (cs := #[.slice A1_0 l1_0.length c1_0, .int .i64 a1_1]) (t := 32) ?_; intro gb658 hg w18 hbox hb; have BK658 := Aside0.mk (hbox); have GW658 := Aside0.mk ((gs hg (bw HB.out))); have GE658 := Aside0.mk ((gs hg (bw HB.out))); replace HB := Aside0.mk (below_step (bw HB.out) hb); have NB657_658 := Aside0.mk ((ga hg BK657.out)); have NB658_657 := Aside0.mk ((gc hg BK657.out)); replace BK657 := Aside0.mk (bb BK657 hb); clear hb hbox hg) | ((with_reducible refine gate_callee (f := 11) rfl ?_); refine goesM_ (some 11) rfl rfl Try.func11 #[.int .i64 a2] ?_; (with_reducible refine (impl_Region.calls a2 t659 t660 _ A4.out).mono ?_); rintro e w' ⟨rfl, ⟨nd, rfl⟩⟩; refine ⟨_, rfl, ?_⟩; have hnb19 := NB657_658.out; have hnc19 := NB658_657.out; have hcz20_0 : w18.cell? ⟨gb657, 0, none⟩ = some (.slice A0_0 l0_0.length c0_0) := cl BK657 0; have hfz20_0 := blk_frozen BK657.out 0; obtain ⟨hcz21_0, hcz21_1⟩ := ce2 BK658; obtain ⟨hfz21_0, hfz21_1⟩ := fz2 BK658; have p662 : 0 ≤ (a1_1 : Int) := dt; have q662 : a1_1 < (l0_0.length : Int) := dt; obtain ⟨ad662, A662_0, c662_0, e662, hx662_0, hl662_0, hi662_0⟩ := at_L2 HR0_0.out a1_1 p662 q662; cases e662; replace hx662_0 := (HB.out.cell (World.block_lt_of_cell? w _ hx662_0)).trans hx662_0; have HR662_0 := Aside0.mk hi662_0; have HC662_0 := Aside0.mk hl662_0; clear hi662_0 hl662_0; replace p662 := eq_true p662; replace q662 := eq_true q662; have p663 : 0 ≤ (t660 : Int) := dt; have q663 : t660 < ((rd_L2 l0_0 a1_1).length : Int) := dt; obtain ⟨ad663, e663, hx663_0⟩ := Kd.at_int HR662_0.out t660 p663 q663; cases e663; replace hx663_0 := (HB.out.cell (World.block_lt_of_cell? w _ hx663_0)).trans hx663_0; replace p663 := eq_true p663; replace q663 := eq_true q663))
       go_ret
       exact ⟨rt, bw HB.out⟩
      ·rw [if_neg c16] at H
       exact absurd H (by simp)
     ·rw [if_neg c15] at H
      exact absurd H (by simp)
    ·rw [if_neg c14] at H
     exact absurd H (by simp)
   ·rw [if_neg c13] at H
    exact absurd H (by simp)
  ·rw [if_neg c12] at H
   have c12b0 : (t659 == 5) = false := beq_eq_false_iff_ne.mpr c12
   have c12b1 : (t659 != 5) = true := bne_iff_ne.mpr c12
   by_cases c22 : t659 = 6
   ·rw [if_pos c22] at H
    have c22b0 : (t659 == 6) = true := beq_iff_eq.mpr c22
    have c22b1 : (t659 != 6) = false := bne_eq_false_iff_eq.mpr c22
    clear c22
    obtain ⟨ji23, hji23⟩ : ∃ j_ : Int, (wrap64 ((l0_0.length : Int) - 1)) = j_ := ⟨_, rfl⟩
    replace H : (if 0 ≤ (ji23) then (if (ji23) < (l0_0.length : Int) then (if 0 ≤ t660 then (if t660 < ((rd_L2 l0_0 (ji23)).length : Int) then (some (rd (rd_L2 l0_0 (ji23)) t660)) else (none)) else (none)) else (none)) else (none)) = some r := by first | (rw [hji23] at H; exact H) | (simp only [hji23] at H ⊢; exact H)
    (try rw [hji23] at A4)
    have hji23w : (IntKind.i64.wrap ((l0_0.length : Int) - 1)) = ji23 := (i64_w _).trans hji23
    by_cases c24 : 0 ≤ (ji23)
    ·rw [if_pos c24] at H
     have c24b0 : decide (0 ≤ (ji23)) = true := decide_eq_true c24
     clear c24
     by_cases c25 : (ji23) < (l0_0.length : Int)
     ·rw [if_pos c25] at H
      have c25b0 : decide ((ji23) < (l0_0.length : Int)) = true := decide_eq_true c25
      clear c25
      by_cases c26 : 0 ≤ t660
      ·rw [if_pos c26] at H
       have c26b0 : decide (0 ≤ t660) = true := decide_eq_true c26
       clear c26
       by_cases c27 : t660 < ((rd_L2 l0_0 (ji23)).length : Int)
       ·rw [if_pos c27] at H
        have c27b0 : decide (t660 < ((rd_L2 l0_0 (ji23)).length : Int)) = true := decide_eq_true c27
        clear c27
        obtain rfl := Option.some.inj H
        go_enter Try.func63, Try.ntmps63
        go_wp2_with (first | ((with_reducible refine gate_dst (N := 3) rfl ?_); refine bx (N := 3) (cs := #[.slice A0_0 l0_0.length c0_0]) (t := 29) ?_; intro gb657 hg w28 hbox hb; have BK657 := Aside0.mk (hbox); have GW657 := Aside0.mk ((gs hg (bw HB.out))); have GE657 := Aside0.mk ((gs hg (bw HB.out))); replace HB := Aside0.mk (below_step (bw HB.out) hb); clear hb hbox hg) | ((with_reducible refine gate_dst (N := 4) rfl ?_); refine bx (N := 4) (cs := #[.slice A1_0 l1_0.length c1_0, .int .i64 a1_1]) (t := 32) ?_; intro gb658 hg w29 hbox hb; have BK658 := Aside0.mk (hbox); have GW658 := Aside0.mk ((gs hg (bw HB.out))); have GE658 := Aside0.mk ((gs hg (bw HB.out))); replace HB := Aside0.mk (below_step (bw HB.out) hb); have NB657_658 := Aside0.mk ((ga hg BK657.out)); have NB658_657 := Aside0.mk ((gc hg BK657.out)); replace BK657 := Aside0.mk (bb BK657 hb); clear hb hbox hg) | ((with_reducible refine gate_callee (f := 11) rfl ?_); refine goesM_ (some 11) rfl rfl Try.func11 #[.int .i64 a2] ?_; (with_reducible refine (impl_Region.calls a2 t659 t660 _ A4.out).mono ?_); rintro e w' ⟨rfl, ⟨nd, rfl⟩⟩; refine ⟨_, rfl, ?_⟩; have hnb30 := NB657_658.out; have hnc30 := NB658_657.out; have hcz31_0 : w29.cell? ⟨gb657, 0, none⟩ = some (.slice A0_0 l0_0.length c0_0) := cl BK657 0; have hfz31_0 := blk_frozen BK657.out 0; have p664 : 0 ≤ ((ji23) : Int) := dt; have q664 : (ji23) < (l0_0.length : Int) := dt; obtain ⟨ad664, A664_0, c664_0, e664, hx664_0, hl664_0, hi664_0⟩ := at_L2 HR0_0.out (ji23) p664 q664; cases e664; replace hx664_0 := (HB.out.cell (World.block_lt_of_cell? w _ hx664_0)).trans hx664_0; have HR664_0 := Aside0.mk hi664_0; have HC664_0 := Aside0.mk hl664_0; clear hi664_0 hl664_0; replace p664 := eq_true p664; replace q664 := eq_true q664; have p665 : 0 ≤ (t660 : Int) := dt; have q665 : t660 < ((rd_L2 l0_0 (ji23)).length : Int) := dt; obtain ⟨ad665, e665, hx665_0⟩ := Kd.at_int HR664_0.out t660 p665 q665; cases e665; replace hx665_0 := (HB.out.cell (World.block_lt_of_cell? w _ hx665_0)).trans hx665_0; replace p665 := eq_true p665; replace q665 := eq_true q665))
        go_ret
        exact ⟨by first | rfl | (simp [errW_none, errW_some] <;> rfl) | (simp only [← hji23]; first | rfl | (simp [errW_none, errW_some] <;> rfl)) | (simp [*, errW_none, errW_some] <;> rfl), bw HB.out⟩
       ·rw [if_neg c27] at H
        exact absurd H (by simp)
      ·rw [if_neg c26] at H
       exact absurd H (by simp)
     ·rw [if_neg c25] at H
      exact absurd H (by simp)
    ·rw [if_neg c24] at H
     exact absurd H (by simp)
   ·rw [if_neg c22] at H
    have c22b0 : (t659 == 6) = false := beq_eq_false_iff_ne.mpr c22
    have c22b1 : (t659 != 6) = true := bne_iff_ne.mpr c22
    obtain rfl := Option.some.inj H
    go_enter Try.func63, Try.ntmps63
    go_wp2_with (first | ((with_reducible refine gate_dst (N := 3) rfl ?_); refine bx (N := 3) (cs := #[.slice A0_0 l0_0.length c0_0]) (t := 29) ?_; intro gb657 hg w32 hbox hb; have BK657 := Aside0.mk (hbox); have GW657 := Aside0.mk ((gs hg (bw HB.out))); have GE657 := Aside0.mk ((gs hg (bw HB.out))); replace HB := Aside0.mk (below_step (bw HB.out) hb); clear hb hbox hg) | ((with_reducible refine gate_dst (N := 4) rfl ?_); refine bx (N := 4) (cs := #[.slice A1_0 l1_0.length c1_0, .int .i64 a1_1]) (t := 32) ?_; intro gb658 hg w33 hbox hb; have BK658 := Aside0.mk (hbox); have GW658 := Aside0.mk ((gs hg (bw HB.out))); have GE658 := Aside0.mk ((gs hg (bw HB.out))); replace HB := Aside0.mk (below_step (bw HB.out) hb); have NB657_658 := Aside0.mk ((ga hg BK657.out)); have NB658_657 := Aside0.mk ((gc hg BK657.out)); replace BK657 := Aside0.mk (bb BK657 hb); clear hb hbox hg) | ((with_reducible refine gate_callee (f := 11) rfl ?_); refine goesM_ (some 11) rfl rfl Try.func11 #[.int .i64 a2] ?_; (with_reducible refine (impl_Region.calls a2 t659 t660 _ A4.out).mono ?_); rintro e w' ⟨rfl, ⟨nd, rfl⟩⟩; refine ⟨_, rfl, ?_⟩))
    go_ret
    exact ⟨rt, bw HB.out⟩

/-! ### impl_Peek: function 14 -/
def impl_Peek.f (k : Nat) (l0_0 : List (List Int)) (l1_0 : List Int) (a1_1 : Int) (a2 : Int) : Option (Int) := (impl_MemOk.f k l0_0 l1_0 a1_1).bind fun t668 => (if t668 = true then ((impl_peek.f l0_0 l1_0 a1_1 a2).bind fun t669 => (some t669)) else (some 0))
set_option maxHeartbeats 8000000 in
set_option maxRecDepth 100000 in
theorem impl_Peek.calls (k : Nat) (A0_0 : Option Addr) (c0_0 : Nat) (l0_0 : List (List Int)) (A1_0 : Option Addr) (c1_0 : Nat) (l1_0 : List Int) (a1_1 : Int) (a2 : Int) (r : Int) (w : World) (hr0_0 : Kd.C (Kd.slice 3 (Kd.int .i64)) w A0_0 l0_0.length l0_0) (hc0_0 : l0_0.length ≤ c0_0) (hr1_0 : Kd.C (Kd.int .i64) w A1_0 l1_0.length l1_0) (hc1_0 : l1_0.length ≤ c1_0) (h : impl_Peek.f k l0_0 l1_0 a1_1 a2 = some r) :
  Calls Try.prog 14 #[.agg #[.slice A0_0 l0_0.length c0_0], .agg #[.slice A1_0 l1_0.length c1_0, .int .i64 a1_1], .int .i64 a2] w fun e w' => e = .returned (.int .i64 r) ∧ Below w.heap.size w w' := by
 have hu29 := Try.underlying29
 have hu32 := Try.underlying32
 have HR0_0 := Aside0.mk hr0_0
 have HC0_0 := Aside0.mk hc0_0
 clear hr0_0 hc0_0
 have HR1_0 := Aside0.mk hr1_0
 have HC1_0 := Aside0.mk hc1_0
 clear hr1_0 hc1_0
 have HB := Aside0.mk (Below.refl w.heap.size w)
 have H : ((impl_MemOk.f k l0_0 l1_0 a1_1).bind fun t668 => (if t668 = true then ((impl_peek.f l0_0 l1_0 a1_1 a2).bind fun t669 => (some t669)) else (some 0))) = some r := h
 clear h
 replace H := Option.bind_eq_some_iff.mp H
 obtain ⟨t668, A40, H⟩ := H
 replace H : (if t668 = true then ((impl_peek.f l0_0 l1_0 a1_1 a2).bind fun t669 => (some t669)) else (some 0)) = some r := H
 have A4 := Aside0.mk A40
 clear A40
 by_cases c5 : t668 = true
 ·subst c5
  have H1 : ((impl_peek.f l0_0 l1_0 a1_1 a2).bind fun t669 => (some t669)) = some r := by rw [if_pos rfl] at H; exact H
  clear H
  have H := H1
  clear H1
  replace H := Option.bind_eq_some_iff.mp H
  obtain ⟨t669, A60, H⟩ := H
  replace H : (some t669) = some r := H
  have A6 := Aside0.mk A60
  clear A60
  obtain rfl := Option.some.inj H
  go_enter Try.func14, Try.ntmps14
  go_wp2_with (first | ((with_reducible refine gate_dst (N := 3) rfl ?_); refine bx (N := 3) (cs := #[.slice A0_0 l0_0.length c0_0]) (t := 29) ?_; intro gb666 hg w7 hbox hb; have BK666 := Aside0.mk (hbox); have GW666 := Aside0.mk ((gs hg (bw HB.out))); have GE666 := Aside0.mk ((gs hg (bw HB.out))); replace HB := Aside0.mk (below_step (bw HB.out) hb); clear hb hbox hg) | ((with_reducible refine gate_dst (N := 4) rfl ?_); refine bx (N := 4) (cs := #[.slice A1_0 l1_0.length c1_0, .int .i64 a1_1]) (t := 32) ?_; intro gb667 hg w8 hbox hb; have BK667 := Aside0.mk (hbox); have GW667 := Aside0.mk ((gs hg (bw HB.out))); have GE667 := Aside0.mk ((gs hg (bw HB.out))); replace HB := Aside0.mk (below_step (bw HB.out) hb); have NB666_667 := Aside0.mk ((ga hg BK666.out)); have NB667_666 := Aside0.mk ((gc hg BK666.out)); replace BK666 := Aside0.mk (bb BK666 hb); clear hb hbox hg; have hnb9 := NB666_667.out; have hnc9 := NB667_666.out; have hcz10_0 : w8.cell? ⟨gb666, 0, none⟩ = some (.slice A0_0 l0_0.length c0_0) := cl BK666 0; have hfz10_0 := blk_frozen BK666.out 0; obtain ⟨hcz11_0, hcz11_1⟩ := ce2 BK667; have hfz11_0 := blk_frozen BK667.out 0; have hfz11_1 := blk_frozen BK667.out 1) | ((with_reducible refine gate_callee (f := 32) rfl ?_); refine goesM_ (some 9) rfl rfl Try.func32 #[.agg #[.slice A0_0 l0_0.length c0_0], .agg #[.slice A1_0 l1_0.length c1_0, .int .i64 a1_1]] ?_; (with_reducible refine (impl_MemOk.calls k _ _ l0_0 _ _ l1_0 a1_1 true _ ?side1 ?side2 ?side3 ?side4 A4.out).mono ?_); (case side1 => exact kc (Kd.C_below HR0_0.out HB.out)); (case side2 => exact HC0_0.out); (case side3 => exact kc (Kd.C_below HR1_0.out HB.out)); (case side4 => exact HC1_0.out); rintro e w12 ⟨rfl, hb⟩; refine ⟨_, rfl, ?_⟩; replace BK666 := Aside0.mk (bb BK666 hb); replace BK667 := Aside0.mk (bb BK667 hb); replace HB := Aside0.mk (below_step (bw HB.out) hb); (try clear hb); (try clear hb2); (try clear hk); (try clear hi); have hcz13_0 : w12.cell? ⟨gb666, 0, none⟩ = some (.slice A0_0 l0_0.length c0_0) := cl BK666 0; have hfz13_0 := blk_frozen BK666.out 0; obtain ⟨hcz14_0, hcz14_1⟩ := ce2 BK667; have hfz14_0 := blk_frozen BK667.out 0; have hfz14_1 := blk_frozen BK667.out 1) | ((with_reducible refine gate_callee (f := 63) rfl ?_); refine goesM_ (some 14) rfl rfl Try.func63 #[.agg #[.slice A0_0 l0_0.length c0_0], .agg #[.slice A1_0 l1_0.length c1_0, .int .i64 a1_1], .int .i64 a2] ?_; (with_reducible refine (impl_peek.calls _ _ l0_0 _ _ l1_0 a1_1 a2 t669 _ ?side1 ?side2 ?side3 ?side4 A6.out).mono ?_); (case side1 => exact kc (Kd.C_below HR0_0.out HB.out)); (case side2 => exact HC0_0.out); (case side3 => exact kc (Kd.C_below HR1_0.out HB.out)); (case side4 => exact HC1_0.out); rintro e w15 ⟨rfl, hb⟩; refine ⟨_, rfl, ?_⟩; replace BK666 := Aside0.mk (bb BK666 hb); replace BK667 := Aside0.mk (bb BK667 hb); replace HB := Aside0.mk (below_step (bw HB.out) hb); (try clear hb); (try clear hb2); (try clear hk); (try clear hi)))
  go_ret
  exact ⟨rt, bw HB.out⟩
 ·replace c5 := Bool.eq_false_iff.mpr c5
  subst c5
  have H1 : (some 0) = some r := by rw [if_neg (show ¬ (false = true) by decide)] at H; exact H
  clear H
  have H := H1
  clear H1
  obtain rfl := Option.some.inj H
  go_enter Try.func14, Try.ntmps14
  go_wp2_with (first | ((with_reducible refine gate_dst (N := 3) rfl ?_); refine bx (N := 3) (cs := #[.slice A0_0 l0_0.length c0_0]) (t := 29) ?_; intro gb666 hg w16 hbox hb; have BK666 := Aside0.mk (hbox); have GW666 := Aside0.mk ((gs hg (bw HB.out))); have GE666 := Aside0.mk ((gs hg (bw HB.out))); replace HB := Aside0.mk (below_step (bw HB.out) hb); clear hb hbox hg) | ((with_reducible refine gate_dst (N := 4) rfl ?_); refine bx (N := 4) (cs := #[.slice A1_0 l1_0.length c1_0, .int .i64 a1_1]) (t := 32) ?_; intro gb667 hg w17 hbox hb; have BK667 := Aside0.mk (hbox); have GW667 := Aside0.mk ((gs hg (bw HB.out))); have GE667 := Aside0.mk ((gs hg (bw HB.out))); replace HB := Aside0.mk (below_step (bw HB.out) hb); have NB666_667 := Aside0.mk ((ga hg BK666.out)); have NB667_666 := Aside0.mk ((gc hg BK666.out)); replace BK666 := Aside0.mk (bb BK666 hb); clear hb hbox hg; have hnb18 := NB666_667.out; have hnc18 := NB667_666.out; have hcz19_0 : w17.cell? ⟨gb666, 0, none⟩ = some (.slice A0_0 l0_0.length c0_0) := cl BK666 0; have hfz19_0 := blk_frozen BK666.out 0; obtain ⟨hcz20_0, hcz20_1⟩ := ce2 BK667; have hfz20_0 := blk_frozen BK667.out 0; have hfz20_1 := blk_frozen BK667.out 1) | ((with_reducible refine gate_callee (f := 32) rfl ?_); refine goesM_ (some 9) rfl rfl Try.func32 #[.agg #[.slice A0_0 l0_0.length c0_0], .agg #[.slice A1_0 l1_0.length c1_0, .int .i64 a1_1]] ?_; (with_reducible refine (impl_MemOk.calls k _ _ l0_0 _ _ l1_0 a1_1 false _ ?side1 ?side2 ?side3 ?side4 A4.out).mono ?_); (case side1 => exact kc (Kd.C_below HR0_0.out HB.out)); (case side2 => exact HC0_0.out); (case side3 => exact kc (Kd.C_below HR1_0.out HB.out)); (case side4 => exact HC1_0.out); rintro e w21 ⟨rfl, hb⟩; refine ⟨_, rfl, ?_⟩; replace BK666 := Aside0.mk (bb BK666 hb); replace BK667 := Aside0.mk (bb BK667 hb); replace HB := Aside0.mk (below_step (bw HB.out) hb); (try clear hb); (try clear hb2); (try clear hk); (try clear hi)))
  go_ret
  exact ⟨rt, bw HB.out⟩

/-! ### impl_vectorOf: function 86 -/
def impl_vectorOf.f (k : Nat) (l0_0 : List (List Int)) (l1_0 : List Int) (a1_1 : Int) (a2 : Int) : Option (Int) := (impl_Peek.f k l0_0 l1_0 a1_1 a2).bind fun t672 => ((impl_Peek.f k l0_0 l1_0 a1_1 (wrap64 (a2 + 1))).bind fun t673 => ((impl_Join.f t672 t673).bind fun t674 => (some t674)))
def impl_vectorOf.T1 : Bool × List (List Nat × List Nat) := (true, [([], []), ([], []), ([], []), ([0, 1, 2], [0, 1, 2]), ([], []), ([], []), ([], []), ([6], [6]), ([4, 5, 7, 3], [4, 5, 7]), ([3, 8, 8], [3, 8]), ([9, 9, 0, 1, 2, 3, 4, 5, 6, 7, 8, 9], [9])])
def impl_vectorOf.B1 : List Nat := [0, 0, 0, 7, 0, 0, 0, 64, 255, 511, 1023]
theorem impl_vectorOf.tab1 : rtab .any (opsOf Try.f86 1) = impl_vectorOf.T1 := by kernel_rfl
theorem impl_vectorOf.bits1 : waitsOk impl_vectorOf.T1.2 impl_vectorOf.B1 = true := by kernel_rfl
set_option maxHeartbeats 8000000 in
set_option maxRecDepth 100000 in
theorem impl_vectorOf.calls (k : Nat) (A0_0 : Option Addr) (c0_0 : Nat) (l0_0 : List (List Int)) (A1_0 : Option Addr) (c1_0 : Nat) (l1_0 : List Int) (a1_1 : Int) (a2 : Int) (r : Int) (w : World) (hr0_0 : Kd.C (Kd.slice 3 (Kd.int .i64)) w A0_0 l0_0.length l0_0) (hc0_0 : l0_0.length ≤ c0_0) (hr1_0 : Kd.C (Kd.int .i64) w A1_0 l1_0.length l1_0) (hc1_0 : l1_0.length ≤ c1_0) (h : impl_vectorOf.f k l0_0 l1_0 a1_1 a2 = some r) :
  Calls Try.prog 86 #[.agg #[.slice A0_0 l0_0.length c0_0], .agg #[.slice A1_0 l1_0.length c1_0, .int .i64 a1_1], .int .i64 a2] w fun e w' => e = .returned (.int .i64 r) ∧ Below w.heap.size w w' := by
 have hu29 := Try.underlying29
 have hu32 := Try.underlying32
 have HR0_0 := Aside0.mk hr0_0
 have HC0_0 := Aside0.mk hc0_0
 clear hr0_0 hc0_0
 have HR1_0 := Aside0.mk hr1_0
 have HC1_0 := Aside0.mk hc1_0
 clear hr1_0 hc1_0
 have HB := Aside0.mk (Below.refl w.heap.size w)
 have H : ((impl_Peek.f k l0_0 l1_0 a1_1 a2).bind fun t672 => ((impl_Peek.f k l0_0 l1_0 a1_1 (wrap64 (a2 + 1))).bind fun t673 => ((impl_Join.f t672 t673).bind fun t674 => (some t674)))) = some r := h
 clear h
 replace H := Option.bind_eq_some_iff.mp H
 obtain ⟨t672, A40, H⟩ := H
 replace H : ((impl_Peek.f k l0_0 l1_0 a1_1 (wrap64 (a2 + 1))).bind fun t673 => ((impl_Join.f t672 t673).bind fun t674 => (some t674))) = some r := H
 have A4 := Aside0.mk A40
 clear A40
 replace H := Option.bind_eq_some_iff.mp H
 obtain ⟨t673, A50, H⟩ := H
 replace H : ((impl_Join.f t672 t673).bind fun t674 => (some t674)) = some r := H
 have A5 := Aside0.mk A50
 clear A50
 replace H := Option.bind_eq_some_iff.mp H
 obtain ⟨t674, A60, H⟩ := H
 replace H : (some t674) = some r := H
 have A6 := Aside0.mk A60
 clear A60
 obtain rfl := Option.some.inj H
 go_enter Try.func86, Try.ntmps86
 try go_wp2_with (first | ((with_reducible refine gate_dst (N := 3) rfl ?_); refine bx (N := 3) (cs := #[.slice A0_0 l0_0.length c0_0]) (t := 29) ?_; intro gb670 hg w7 hbox hb; have BK670 := Aside0.mk (hbox); have GW670 := Aside0.mk ((gs hg (bw HB.out))); have GE670 := Aside0.mk ((gs hg (bw HB.out))); replace HB := Aside0.mk (below_step (bw HB.out) hb); clear hb hbox hg) | ((with_reducible refine gate_dst (N := 4) rfl ?_); refine bx (N := 4) (cs := #[.slice A1_0 l1_0.length c1_0, .int .i64 a1_1]) (t := 32) ?_; intro gb671 hg w8 hbox hb; have BK671 := Aside0.mk (hbox); have GW671 := Aside0.mk ((gs hg (bw HB.out))); have GE671 := Aside0.mk ((gs hg (bw HB.out))); replace HB := Aside0.mk (below_step (bw HB.out) hb); have NB670_671 := Aside0.mk ((ga hg BK670.out)); have NB671_670 := Aside0.mk ((gc hg BK670.out)); replace BK670 := Aside0.mk (bb BK670 hb); clear hb hbox hg))
 replace BK670 := Aside0.mk (blk_drew BK670.out)
 replace BK671 := Aside0.mk (blk_drew BK671.out)
 replace HB := Aside0.mk (below_drew1 HB.out)
 refine start_ (n := 11) (S := fun w' => w'.cell? ⟨gb670, 0, none⟩ = some (.slice A0_0 l0_0.length c0_0) ∧ w'.cell? ⟨gb671, 0, none⟩ = some (.slice A1_0 l1_0.length c1_0) ∧ w'.cell? ⟨gb671, 1, none⟩ = some (.int .i64 a1_1)) (ds := []) (bm 11 0) (by kernel_rfl) rfl (by kernel_rfl) ⟨cl BK670 0, cl BK671 0, cl BK671 1⟩ (fun hHeld => ?_); refine with_tabW impl_vectorOf.tab1 impl_vectorOf.bits1 (fun HT_ HW_ => ?_)
 generalize w8.drew = w9 at BK670 BK671 HB hHeld ⊢
 refine pw_ 2 (some 9) (bm 11 4) HT_ ?_
 refine pw_ 6 (some 13) (bm 11 68) HT_ ?_
 refine pw_ 7 (some 14) (bm 11 196) HT_ ?_
 refine tw_ 0 (some 7) (bm 11 197) HT_ HW_ hHeld ?_
 refine tw_ 1 (some 8) (bm 11 199) HT_ HW_ hHeld ?_
 refine tw_ 4 (some 11) (bm 11 215) HT_ HW_ hHeld ?_
 refine tw_ 5 (some 12) (bm 11 247) HT_ HW_ hHeld ?_
 refine ow_ 3 (some 10) (bm 11 255) HT_ (fun K hK => ?_)
 refine gw_ Try.func14 #[.agg #[.slice A0_0 l0_0.length c0_0], .agg #[.slice A1_0 l1_0.length c1_0, .int .i64 a1_1], .int .i64 a2] ?_
 with_reducible refine (impl_Peek.calls k _ _ l0_0 _ _ l1_0 a1_1 a2 t672 _ ?side1 ?side2 ?side3 ?side4 A4.out).mono ?_
 (case side1 => exact kc (Kd.C_below HR0_0.out HB.out))
 (case side2 => exact HC0_0.out)
 (case side3 => exact kc (Kd.C_below HR1_0.out HB.out))
 (case side4 => exact HC1_0.out)
 rintro e w10 ⟨rfl, hb⟩
 refine ⟨_, rfl, ?_⟩
 replace BK670 := Aside0.mk (bb BK670 hb)
 replace BK671 := Aside0.mk (bb BK671 hb)
 replace HB := Aside0.mk (below_step (bw HB.out) hb)
 (try clear hb); (try clear hb2); (try clear hk); (try clear hi)
 refine hK.out _ _ ⟨cl BK670 0, cl BK671 0, cl BK671 1⟩ (fun hHeld => ?_)
 clear hK K
 refine nw_ 10 ?_
 refine ow_ 8 (some 15) (bm 11 511) HT_ (fun K hK => ?_)
 refine gw_ Try.func14 #[.agg #[.slice A0_0 l0_0.length c0_0], .agg #[.slice A1_0 l1_0.length c1_0, .int .i64 a1_1], .int .i64 (wrap64 (a2 + 1))] ?_
 with_reducible refine (impl_Peek.calls k _ _ l0_0 _ _ l1_0 a1_1 (wrap64 (a2 + 1)) t673 _ ?side1 ?side2 ?side3 ?side4 A5.out).mono ?_
 (case side1 => exact kc (Kd.C_below HR0_0.out HB.out))
 (case side2 => exact HC0_0.out)
 (case side3 => exact kc (Kd.C_below HR1_0.out HB.out))
 (case side4 => exact HC1_0.out)
 rintro e w11 ⟨rfl, hb⟩
 refine ⟨_, rfl, ?_⟩
 replace BK670 := Aside0.mk (bb BK670 hb)
 replace BK671 := Aside0.mk (bb BK671 hb)
 replace HB := Aside0.mk (below_step (bw HB.out) hb)
 (try clear hb); (try clear hb2); (try clear hk); (try clear hi)
 refine hK.out _ _ ⟨cl BK670 0, cl BK671 0, cl BK671 1⟩ (fun hHeld => ?_)
 clear hK K
 refine nw_ 15 ?_
 refine ow_ 9 (some 16) (bm 11 1023) HT_ (fun K hK => ?_)
 refine gw_ Try.func39 #[.int .i64 t672, .int .i64 t673] ?_
 with_reducible refine (impl_Join.calls t672 t673 t674 _ A6.out).mono ?_
 rintro e w' ⟨rfl, ⟨nd, rfl⟩⟩
 refine ⟨_, rfl, ?_⟩
 replace BK670 := Aside0.mk (blk_drewN BK670.out nd)
 replace BK671 := Aside0.mk (blk_drewN BK671.out nd)
 replace HB := Aside0.mk (pw_below_drewN HB.out nd)
 generalize w11.drewN nd = w11 at BK670 BK671 HB ⊢
 refine hK.out _ _ ⟨cl BK670 0, cl BK671 0, cl BK671 1⟩ (fun hHeld => ?_)
 clear hK K
 refine nw_ 16 ?_
 refine pw_ 10 (some 6) (bm 11 2047) HT_ ?_
 refine done_ (done_of HT_.out (by kernel_rfl)) ?_
 try go_wp2
 go_ret
 exact ⟨rt, bw HB.out⟩

/-! ### impl_Enter (mine) -/
theorem copyMem_just {l0 r1 : List Int} {b r2 : Int} (h : impl_copyMem.f l0 b = some (r1, r2)) : r1 = l0 ∧ r2 = b := by
 unfold impl_copyMem.f impl_copyInts.f at h
 simp only [Option.bind_some] at h
 split at h
 ·simp only [Option.bind_some, Option.some.injEq, Prod.mk.injEq, List.nil_append] at h
  exact ⟨h.1.symm, h.2.symm⟩
 ·simp at h
/-- What Enter leaves: fl the flags, pc where the vector leads. -/
def enterF (ram : List Int) (k : Cp) (fl pc : Int) : List Int × Cp := ((pushF (pushPcF ram k).1 (pushPcF ram k).2 fl).1, { (pushF (pushPcF ram k).1 (pushPcF ram k).2 fl).2 with I := true, P := pc })
set_option maxRecDepth 100000 in
set_option maxHeartbeats 4000000 in
theorem implEnter_calls (n : Nat) (A0 : Option Addr) (c0 : Nat) (l0 : List (List Int)) (A1 : Option Addr) (c1 : Nat) (l1 : List Int) (b : Int) (k : Cp) (vec : Int) (w : World) (hr0 : Kd.C (Kd.slice 3 (Kd.int .i64)) w A0 l0.length l0) (hc0 : l0.length ≤ c0) (hr1 : Kd.C (Kd.int .i64) w A1 l1.length l1) (hc1 : l1.length ≤ c1)
  (h : impl_copyMem.f l1 b = some (l1, b)) (fl : Int) (hfl : impl_Flags.f (pushPcF l1 k).2.A (pushPcF l1 k).2.X (pushPcF l1 k).2.S (pushPcF l1 k).2.P (pushPcF l1 k).2.Z (pushPcF l1 k).2.N (pushPcF l1 k).2.C (pushPcF l1 k).2.I = some fl)
  (pc : Int) (hpc : impl_vectorOf.f n l0 (pushF (pushPcF l1 k).1 (pushPcF l1 k).2 fl).1 b vec = some pc) :
  Calls Try.prog 54 #[.agg #[.slice A0 l0.length c0], .agg #[.slice A1 l1.length c1, .int .i64 b], .agg k.cells, .int .i64 vec] w fun e w' => ∃ v0_ : Value, e = .returned (.tuple #[.agg #[v0_, .int .i64 b], .agg (enterF l1 k fl pc).2.cells]) ∧ Kd.R (Kd.int .i64) 3 w' w.heap.size (fun _ => True) v0_ (enterF l1 k fl pc).1 ∧ Below w.heap.size w w' := by
 have hu27 := Try.underlying29
 have hu37 := Try.underlying32
 have hu38 := Try.underlying55
 have HR := Aside0.mk hr0
 have HC := Aside0.mk hc0
 have HR1 := Aside0.mk hr1
 have HC1 := Aside0.mk hc1
 have H := Aside0.mk h
 have HFL := Aside0.mk hfl
 have HPC := Aside0.mk hpc
 clear hr0 hc0 hr1 hc1 h hfl hpc
 go_enter Try.func54, Try.ntmps54
 unfold Cp.cells
 go_wp2_with fail
 refine (impl_copyMem.calls A1 c1 l1 b l1 b _ ?hr HC1.out H.out).mono ?_
 case hr => repeat (first | exact HR1.out | (with_reducible refine Kd.C_alloc ?_ _))
 rintro e W2 ⟨v0, rfl, hR, hB⟩
 obtain ⟨A2, c2, rfl⟩ := Kd.R_slice hR
 have b0 : W2.heap[w.heap.size]? = some (.cells #[.slice A0 l0.length c0] 29 (0, 0)) := blk_below (by repeat (first | exact alloc_at _ _ _ (by simp only [alloc_size]) | refine blk_alloc ?_ _)) hB
 have b2 : W2.heap[w.heap.size + 2]? = some (.cells k.cells 55 (0, 0)) := blk_below (by repeat (first | exact alloc_at _ _ _ (by simp only [alloc_size]) | refine blk_alloc ?_ _)) hB
 have b3 : W2.heap[w.heap.size + 3]? = some (.cells #[.slice none 0 0, .int .i64 0] 32 (0, 0)) := blk_below (by repeat (first | exact alloc_at _ _ _ (by simp only [alloc_size]) | refine blk_alloc ?_ _)) hB
 have b4 : W2.heap[w.heap.size + 4]? = some (.cells #[.int .i64 0, .int .i64 0, .int .i64 0, .int .i64 0, .bool false, .bool false, .bool false, .bool false] 55 (0, 0)) := blk_below (by repeat (first | exact alloc_at _ _ _ (by simp only [alloc_size]) | refine blk_alloc ?_ _)) hB
 have hsz : w.heap.size + 5 ≤ W2.heap.size := by have := hB.size; simp only [alloc_size] at this; omega
 have hbel : Below w.heap.size w W2 := below_step (by repeat (first | exact Below.refl _ _ | apply below_alloc)) hB
 have hM : MC w (W2.alloc (.cells #[.slice A2 l1.length c2, .int .i64 b] 32)) W2.heap.size (w.heap.size + 2) (.slice A2 l1.length c2) b k l1 :=
  ⟨blk_new W2 _, blk_alloc b2 _, Kd.R_alloc (Kd.R_lower hR (by simp only [alloc_size]; omega)) _, by omega, by omega, below_alloc hbel _⟩
 have HSZ := Aside0.mk hsz
 have HM := Aside0.mk hM
 have B0 := Aside0.mk (blk_alloc b0 (.cells #[.slice A2 l1.length c2, .int .i64 b] 32))
 have B3 := Aside0.mk (blk_alloc b3 (.cells #[.slice A2 l1.length c2, .int .i64 b] 32))
 have B4 := Aside0.mk (blk_alloc b4 (.cells #[.slice A2 l1.length c2, .int .i64 b] 32))
 clear hR hB b0 b2 b3 b4 hsz hbel hM
 go_wp2_with fail
 generalize W2.alloc (.cells #[.slice A2 l1.length c2, .int .i64 b] 32) = W3 at *
 generalize W2.heap.size = x at *
 refine (pushPc_calls HM.out).mono ?_
 rintro e W4 ⟨rfl, h4, k4⟩
 have hself : ∀ {W : World} {j : Nat} {t : TypeId} {cs : Array Value} {cc : Array Value}, MC w W x (w.heap.size + 2) (.slice A2 l1.length c2) b k l1 → True := fun _ => trivial
 generalize hq : pushPcF l1 k = q at *
 obtain ⟨ram1, k1⟩ := q
 have HQ := Aside0.mk hq
 clear hq hself
 have C0 := Aside0.mk (blk_kept B0.out k4 (fun h => h.elim (fun h => by omega) (fun h => Kd.R_ne HM.out.row B0.out (by decide) h)))
 have C3 := Aside0.mk (blk_kept B3.out k4 (fun h => h.elim (fun h => by omega) (fun h => Kd.R_ne HM.out.row B3.out (by decide) h)))
 have C4 := Aside0.mk (blk_kept B4.out k4 (fun h => h.elim (fun h => by omega) (fun h => Kd.R_ne HM.out.row B4.out (by decide) h)))
 have H4 := Aside0.mk h4
 clear h4 k4 B0 B3 B4 HM
 have y0 : W4.cell? ⟨w.heap.size + 2, 0, none⟩ = some (.int .i64 k1.A) := (blk_cell H4.out.cpu 0).trans rfl
 have y1 : W4.cell? ⟨w.heap.size + 2, 1, none⟩ = some (.int .i64 k1.X) := (blk_cell H4.out.cpu 1).trans rfl
 have y2 : W4.cell? ⟨w.heap.size + 2, 2, none⟩ = some (.int .i64 k1.S) := (blk_cell H4.out.cpu 2).trans rfl
 have y3 : W4.cell? ⟨w.heap.size + 2, 3, none⟩ = some (.int .i64 k1.P) := (blk_cell H4.out.cpu 3).trans rfl
 have y4 : W4.cell? ⟨w.heap.size + 2, 4, none⟩ = some (.bool k1.Z) := (blk_cell H4.out.cpu 4).trans rfl
 have y5 : W4.cell? ⟨w.heap.size + 2, 5, none⟩ = some (.bool k1.N) := (blk_cell H4.out.cpu 5).trans rfl
 have y6 : W4.cell? ⟨w.heap.size + 2, 6, none⟩ = some (.bool k1.C) := (blk_cell H4.out.cpu 6).trans rfl
 have y7 : W4.cell? ⟨w.heap.size + 2, 7, none⟩ = some (.bool k1.I) := (blk_cell H4.out.cpu 7).trans rfl
 go_wp2_with fail
 refine (impl_Flags.calls k1.A k1.X k1.S k1.P k1.Z k1.N k1.C k1.I fl _ HFL.out).mono ?_
 rintro e W5 ⟨rfl, hB5⟩
 clear y0 y1 y2 y3 y4 y5 y6 y7
 have H5 := Aside0.mk (H4.out.later hB5)
 have D0 := Aside0.mk (blk_below C0.out hB5)
 have D3 := Aside0.mk (blk_below C3.out hB5)
 have D4 := Aside0.mk (blk_below C4.out hB5)
 clear hB5 H4 C0 C3 C4
 go_wp2_with fail
 refine (push_calls H5.out fl).mono ?_
 rintro e W6 ⟨rfl, h6, k6⟩
 generalize hq2 : pushF ram1 k1 fl = q2 at *
 obtain ⟨ram2, k2⟩ := q2
 have HQ2 := Aside0.mk hq2
 clear hq2
 have E0 := Aside0.mk (blk_kept D0.out k6 (fun h => h.elim (fun h => by omega) (fun h => Kd.R_ne H5.out.row D0.out (by decide) h)))
 have E3 := Aside0.mk (blk_kept D3.out k6 (fun h => h.elim (fun h => by omega) (fun h => Kd.R_ne H5.out.row D3.out (by decide) h)))
 have E4 := Aside0.mk (blk_kept D4.out k6 (fun h => h.elim (fun h => by omega) (fun h => Kd.R_ne H5.out.row D4.out (by decide) h)))
 have H6 := Aside0.mk h6
 clear h6 k6 D0 D3 D4 H5
 -- I
 have H7 := Aside0.mk (H6.out.setC (k' := { k2 with I := true }) 7 (.bool true) rfl)
 have F0 := Aside0.mk (blk_far (p := ⟨w.heap.size + 2, 7, none⟩) E0.out (by simp) (.bool true))
 have F3 := Aside0.mk (blk_far (p := ⟨w.heap.size + 2, 7, none⟩) E3.out (by simp) (.bool true))
 have F4 := Aside0.mk (blk_far (p := ⟨w.heap.size + 2, 7, none⟩) E4.out (by simp) (.bool true))
 have y7 : W6.cell? ⟨w.heap.size + 2, 7, none⟩ = some (.bool k2.I) := (blk_cell H6.out.cpu 7).trans rfl
 have f7 := blk_frozen H6.out.cpu 7
 have z0 : (W6.setCell ⟨w.heap.size + 2, 7, none⟩ (.bool true)).cell? ⟨w.heap.size, 0, none⟩ = some (.slice A0 l0.length c0) := (blk_cell F0.out 0).trans rfl
 have z1 : (W6.setCell ⟨w.heap.size + 2, 7, none⟩ (.bool true)).cell? ⟨x, 0, none⟩ = some (.slice A2 l1.length c2) := (blk_cell H7.out.mem 0).trans rfl
 have z2 : (W6.setCell ⟨w.heap.size + 2, 7, none⟩ (.bool true)).cell? ⟨x, 1, none⟩ = some (.int .i64 b) := (blk_cell H7.out.mem 1).trans rfl
 go_wp2_with fail
 generalize W6.setCell ⟨w.heap.size + 2, 7, none⟩ (.bool true) = W7 at *
 clear y7 f7 z0 z1 z2 E0 E3 E4 H6
 have hlen : l1.length = ram2.length := (Kd.R_reads' H7.out.row).1
 obtain ⟨hl2, hcm, hCm⟩ := Kd.R_reads' H7.out.row
 refine calls_of_args (args' := #[.agg #[.slice A0 l0.length c0], .agg #[.slice A2 ram2.length c2, .int .i64 b], .int .i64 vec]) (by rw [hlen]) ?_
 have hpc2 : impl_vectorOf.f n l0 ram2 b vec = some pc := HPC.out
 refine (impl_vectorOf.calls n A0 c0 l0 A2 c2 ram2 b vec pc _ (Kd.C_below HR.out H7.out.below) HC.out hCm (by omega) hpc2).mono ?_
 rintro e W8 ⟨rfl, hB8⟩
 have H8 := Aside0.mk (H7.out.later hB8)
 have G3 := Aside0.mk (blk_below F3.out hB8)
 have G4 := Aside0.mk (blk_below F4.out hB8)
 clear hB8 hlen hl2 hcm hCm hpc2 H7 F0 F3 F4
 have H9 := Aside0.mk (H8.out.setC (k' := { k2 with I := true, P := pc }) 3 (.int .i64 pc) rfl)
 have HB1 := Aside0.mk (blk_far (p := ⟨w.heap.size + 2, 3, none⟩) G3.out (by simp) (.int .i64 pc))
 have HB2 := Aside0.mk (blk_far (p := ⟨w.heap.size + 2, 3, none⟩) G4.out (by simp) (.int .i64 pc))
 have y3 : W8.cell? ⟨w.heap.size + 2, 3, none⟩ = some (.int .i64 k2.P) := (blk_cell H8.out.cpu 3).trans rfl
 have f3 := blk_frozen H8.out.cpu 3
 go_wp2
 generalize hW9 : W8.setCell ⟨w.heap.size + 2, 3, none⟩ (.int .i64 pc) = W4 at *
 clear y3 f3 H8 G3 G4 hW9
 obtain ⟨qa, qx, qs, qp, qz, qn, qc, qi⟩ := k2
 have hz_ := HSZ.out
 have h4 : MC w W4 x (w.heap.size + 2) (.slice A2 l1.length c2) b ⟨qa, qx, qs, pc, qz, qn, qc, true⟩ ram2 := H9.out
 have HM4 := Aside0.mk h4.mem
 have HC4 : Aside0 (W4.heap[w.heap.size + 2]? = some (.cells #[.int .i64 qa, .int .i64 qx, .int .i64 qs, .int .i64 pc, .bool qz, .bool qn, .bool qc, .bool true] 55 (0, 0))) := ⟨h4.cpu⟩
 clear H9
 have hne12 : w.heap.size + 3 ≠ w.heap.size + 4 := by omega
 have hne21 : w.heap.size + 4 ≠ w.heap.size + 3 := by omega
 have o1 : x ≠ w.heap.size + 3 := by omega
 have o2 : x ≠ w.heap.size + 4 := by omega
 have o3 : w.heap.size + 2 ≠ w.heap.size + 3 := by omega
 have o4 : w.heap.size + 2 ≠ w.heap.size + 4 := by omega
 refine start_ (n := 4) (S := fun w' => w'.heap[x]? = some (.cells #[.slice A2 l1.length c2, .int .i64 b] 32 (0, 0)) ∧ w'.heap[w.heap.size + 2]? = some (.cells #[.int .i64 qa, .int .i64 qx, .int .i64 qs, .int .i64 pc, .bool qz, .bool qn, .bool qc, .bool true] 55 (0, 0))) (ds := []) (bm 4 0) (by kernel_rfl) rfl (by kernel_rfl) ⟨HM4.out, HC4.out⟩ (fun hHeld => ?_)
 refine take_ (i := 0) (N := some 23) (v := ?_) (a' := ?_) #[true, false, false, false] rfl rfl (by kernel_rfl) (fun _ _ _ h => h) (Or.inl ⟨by rfl, ?_⟩) hHeld ?_ ?_
 rotate_left
 ·rintro w' ⟨s0, s1⟩
  have a0 : w'.cell? ⟨x, 0, none⟩ = some (.slice A2 l1.length c2) := (blk_cell s0 0).trans rfl
  have a1 : w'.cell? ⟨x, 1, none⟩ = some (.int .i64 b) := (blk_cell s0 1).trans rfl
  clear s0 s1
  go_simp
  with_reducible rfl
 rotate_left
 ·simp only [Act.put, List.setIfInBounds_toArray, List.set_cons_zero, List.set_cons_succ, i64_w, i32_w]
  rfl
 refine take_ (i := 1) (N := some 24) (v := ?_) (a' := ?_) #[true, true, false, false] rfl rfl (by kernel_rfl) (fun _ _ _ h => h) (Or.inl ⟨by rfl, ?_⟩) hHeld ?_ ?_
 rotate_left
 ·rintro w' ⟨s0, s1⟩
  have b0 : w'.cell? ⟨w.heap.size + 2, 0, none⟩ = some (.int .i64 qa) := (blk_cell s1 0).trans rfl
  have b1 : w'.cell? ⟨w.heap.size + 2, 1, none⟩ = some (.int .i64 qx) := (blk_cell s1 1).trans rfl
  have b2 : w'.cell? ⟨w.heap.size + 2, 2, none⟩ = some (.int .i64 qs) := (blk_cell s1 2).trans rfl
  have b3 : w'.cell? ⟨w.heap.size + 2, 3, none⟩ = some (.int .i64 pc) := (blk_cell s1 3).trans rfl
  have b4 : w'.cell? ⟨w.heap.size + 2, 4, none⟩ = some (.bool qz) := (blk_cell s1 4).trans rfl
  have b5 : w'.cell? ⟨w.heap.size + 2, 5, none⟩ = some (.bool qn) := (blk_cell s1 5).trans rfl
  have b6 : w'.cell? ⟨w.heap.size + 2, 6, none⟩ = some (.bool qc) := (blk_cell s1 6).trans rfl
  have b7 : w'.cell? ⟨w.heap.size + 2, 7, none⟩ = some (.bool true) := (blk_cell s1 7).trans rfl
  clear s0 s1
  go_simp
  with_reducible rfl
 rotate_left
 ·simp only [Act.put, List.setIfInBounds_toArray, List.set_cons_zero, List.set_cons_succ, i64_w, i32_w]
  rfl
 refine ov_ 2 none (bm 4 7) (fun K hK => ?_)
 refine skip_ (w1 := ?_) (by rfl) rfl ?_ ?_
 rotate_left
 ·have r0 : W4.cell? ⟨w.heap.size + 3, 0, none⟩ = some (.slice none 0 0) := (blk_cell HB1.out 0).trans rfl
  have r1 : W4.cell? ⟨w.heap.size + 3, 1, none⟩ = some (.int .i64 0) := (blk_cell HB1.out 1).trans rfl
  have f0 := blk_frozen HB1.out 0
  have f1 := blk_frozen HB1.out 1
  go_simp
  rfl
 refine hK.out _ _ ⟨(heap2 _ _ _ _ _ o1).trans hHeld.1, (heap2 _ _ _ _ _ o3).trans hHeld.2⟩ (fun hHeld => ?_)
 clear hK K
 have g0 := (heap_drew _ _).symm.trans hHeld.1
 have g1 := (heap_drew _ _).symm.trans hHeld.2
 have g2 : ((W4.setCell ⟨w.heap.size + 1 + 1 + 1, 0, none⟩ (.slice A2 l1.length c2)).setCell ⟨w.heap.size + 1 + 1 + 1, 1, none⟩ (.int .i64 b)).heap[w.heap.size + 4]? = _ := (heap2 W4 (w.heap.size + 3) (w.heap.size + 4) (.slice A2 l1.length c2) (.int .i64 b) hne21).trans HB2.out
 have g3 : ((W4.setCell ⟨w.heap.size + 1 + 1 + 1, 0, none⟩ (.slice A2 l1.length c2)).setCell ⟨w.heap.size + 1 + 1 + 1, 1, none⟩ (.int .i64 b)).heap[w.heap.size + 3]? = _ := put2 HB1.out (.slice A2 l1.length c2) (.int .i64 b)
 have g4 : Kd.R (Kd.int .i64) 3 ((W4.setCell ⟨w.heap.size + 1 + 1 + 1, 0, none⟩ (.slice A2 l1.length c2)).setCell ⟨w.heap.size + 1 + 1 + 1, 1, none⟩ (.int .i64 b)) w.heap.size (fun _ => True) (.slice A2 l1.length c2) ram2 :=
  Kd.R_mono (Kd.R_far (p := ⟨w.heap.size + 3, 1, none⟩) (Kd.R_far (p := ⟨w.heap.size + 3, 0, none⟩) (Kd.R_types h4.row HB1.out (by decide)) (fun _ hk => hk.2) (.slice A2 l1.length c2)) (fun _ hk => hk.2) (.int .i64 b)) (fun _ hk => trivial)
 have g5 : Below w.heap.size w ((W4.setCell ⟨w.heap.size + 1 + 1 + 1, 0, none⟩ (.slice A2 l1.length c2)).setCell ⟨w.heap.size + 1 + 1 + 1, 1, none⟩ (.int .i64 b)) := below_set (below_set h4.below (by omega)) (by omega)
 clear HB1 HB2 HM4 HC4 h4
 generalize ((W4.setCell ⟨w.heap.size + 1 + 1 + 1, 0, none⟩ (.slice A2 l1.length c2)).setCell ⟨w.heap.size + 1 + 1 + 1, 1, none⟩ (.int .i64 b)) = W5 at *
 have G2 := Aside0.mk g2
 have G3 := Aside0.mk g3
 have G4 := Aside0.mk g4
 have G5 := Aside0.mk g5
 have G0 := Aside0.mk g0
 have G1 := Aside0.mk g1
 clear g0 g1 g2 g3 g4 g5
 refine ov_ 3 none (bm 4 15) (fun K hK => ?_)
 refine skip_ (w1 := ?_) (by rfl) rfl ?_ ?_
 rotate_left
 ·skip
  have r0 : W5.cell? ⟨w.heap.size + 4, 0, none⟩ = some (.int .i64 0) := (blk_cell G2.out 0).trans rfl
  have f0 := blk_frozen G2.out 0
  have r1 : W5.cell? ⟨w.heap.size + 4, 1, none⟩ = some (.int .i64 0) := (blk_cell G2.out 1).trans rfl
  have f1 := blk_frozen G2.out 1
  have r2 : W5.cell? ⟨w.heap.size + 4, 2, none⟩ = some (.int .i64 0) := (blk_cell G2.out 2).trans rfl
  have f2 := blk_frozen G2.out 2
  have r3 : W5.cell? ⟨w.heap.size + 4, 3, none⟩ = some (.int .i64 0) := (blk_cell G2.out 3).trans rfl
  have f3 := blk_frozen G2.out 3
  have r4 : W5.cell? ⟨w.heap.size + 4, 4, none⟩ = some (.bool false) := (blk_cell G2.out 4).trans rfl
  have f4 := blk_frozen G2.out 4
  have r5 : W5.cell? ⟨w.heap.size + 4, 5, none⟩ = some (.bool false) := (blk_cell G2.out 5).trans rfl
  have f5 := blk_frozen G2.out 5
  have r6 : W5.cell? ⟨w.heap.size + 4, 6, none⟩ = some (.bool false) := (blk_cell G2.out 6).trans rfl
  have f6 := blk_frozen G2.out 6
  have r7 : W5.cell? ⟨w.heap.size + 4, 7, none⟩ = some (.bool false) := (blk_cell G2.out 7).trans rfl
  have f7 := blk_frozen G2.out 7
  go_simp
  rfl
 refine hK.out _ _ ⟨(heap_drew _ _).trans ((heap8 W5 (w.heap.size + 4) _ _ _ _ _ _ _ _ _ o2).trans G0.out), (heap_drew _ _).trans ((heap8 W5 (w.heap.size + 4) _ _ _ _ _ _ _ _ _ o4).trans G1.out)⟩ (fun hHeld => ?_)
 clear hK K
 refine done_ (by kernel_rfl) ?_
 try go_wp2
 refine bodyPost_ret (results_cc rfl _ _ (w.heap.size + 3) (w.heap.size + 4) 32 55 #[.slice A2 l1.length c2, .int .i64 b] #[.int .i64 qa, .int .i64 qx, .int .i64 qs, .int .i64 pc, .bool qz, .bool qn, .bool qc, .bool true] (0, 0) (0, 0) _ _ rfl ((heap_drew _ _).trans ((heap8 W5 (w.heap.size + 4) _ _ _ _ _ _ _ _ _ hne12).trans G3.out)) hu37 rfl (by kernel_rfl) rfl ((heap_drew _ _).trans (put8 G2.out _ _ _ _ _ _ _ _)) hu38 rfl (by kernel_rfl)) rfl ?_
 have he_ : enterF l1 k fl pc = (ram2, ⟨qa, qx, qs, pc, qz, qn, qc, true⟩) := by
  unfold enterF
  rw [HQ.out]
  show ((pushF ram1 k1 fl).1, { (pushF ram1 k1 fl).2 with I := true, P := pc }) = _
  rw [HQ2.out]
 rw [he_]
 exact ⟨_, rfl, Kd.R_drew (row8 G4.out G2.out _ _ _ _ _ _ _ _), below_drew1 (below8 G5.out (by omega) _ _ _ _ _ _ _ _)⟩
def impl_Enter.f (k : Nat) (l0_0 : List (List Int)) (l1_0 : List Int) (a1_1 : Int) (a2_0 a2_1 a2_2 a2_3 : Int) (a2_4 a2_5 a2_6 a2_7 : Bool) (a3 : Int) : Option (List Int × Int × Int × Int × Int × Int × Bool × Bool × Bool × Bool) :=
 (impl_copyMem.f l1_0 a1_1).bind fun q => (impl_Flags.f (pushPcF q.1 ⟨a2_0, a2_1, a2_2, a2_3, a2_4, a2_5, a2_6, a2_7⟩).2.A (pushPcF q.1 ⟨a2_0, a2_1, a2_2, a2_3, a2_4, a2_5, a2_6, a2_7⟩).2.X (pushPcF q.1 ⟨a2_0, a2_1, a2_2, a2_3, a2_4, a2_5, a2_6, a2_7⟩).2.S (pushPcF q.1 ⟨a2_0, a2_1, a2_2, a2_3, a2_4, a2_5, a2_6, a2_7⟩).2.P (pushPcF q.1 ⟨a2_0, a2_1, a2_2, a2_3, a2_4, a2_5, a2_6, a2_7⟩).2.Z (pushPcF q.1 ⟨a2_0, a2_1, a2_2, a2_3, a2_4, a2_5, a2_6, a2_7⟩).2.N (pushPcF q.1 ⟨a2_0, a2_1, a2_2, a2_3, a2_4, a2_5, a2_6, a2_7⟩).2.C (pushPcF q.1 ⟨a2_0, a2_1, a2_2, a2_3, a2_4, a2_5, a2_6, a2_7⟩).2.I).bind fun fl => (impl_vectorOf.f k l0_0 (pushF (pushPcF q.1 ⟨a2_0, a2_1, a2_2, a2_3, a2_4, a2_5, a2_6, a2_7⟩).1 (pushPcF q.1 ⟨a2_0, a2_1, a2_2, a2_3, a2_4, a2_5, a2_6, a2_7⟩).2 fl).1 q.2 a3).bind fun pc => some ((enterF q.1 ⟨a2_0, a2_1, a2_2, a2_3, a2_4, a2_5, a2_6, a2_7⟩ fl pc).1, q.2, (enterF q.1 ⟨a2_0, a2_1, a2_2, a2_3, a2_4, a2_5, a2_6, a2_7⟩ fl pc).2.A, (enterF q.1 ⟨a2_0, a2_1, a2_2, a2_3, a2_4, a2_5, a2_6, a2_7⟩ fl pc).2.X, (enterF q.1 ⟨a2_0, a2_1, a2_2, a2_3, a2_4, a2_5, a2_6, a2_7⟩ fl pc).2.S, (enterF q.1 ⟨a2_0, a2_1, a2_2, a2_3, a2_4, a2_5, a2_6, a2_7⟩ fl pc).2.P, (enterF q.1 ⟨a2_0, a2_1, a2_2, a2_3, a2_4, a2_5, a2_6, a2_7⟩ fl pc).2.Z, (enterF q.1 ⟨a2_0, a2_1, a2_2, a2_3, a2_4, a2_5, a2_6, a2_7⟩ fl pc).2.N, (enterF q.1 ⟨a2_0, a2_1, a2_2, a2_3, a2_4, a2_5, a2_6, a2_7⟩ fl pc).2.C, (enterF q.1 ⟨a2_0, a2_1, a2_2, a2_3, a2_4, a2_5, a2_6, a2_7⟩ fl pc).2.I)
theorem impl_Enter.calls (k : Nat) (A0_0 : Option Addr) (c0_0 : Nat) (l0_0 : List (List Int)) (A1_0 : Option Addr) (c1_0 : Nat) (l1_0 : List Int) (a1_1 : Int) (a2_0 a2_1 a2_2 a2_3 : Int) (a2_4 a2_5 a2_6 a2_7 : Bool) (a3 : Int) (r1 : List Int) (r2 : Int) (r3 : Int) (r4 : Int) (r5 : Int) (r6 : Int) (r7 : Bool) (r8 : Bool) (r9 : Bool) (r10 : Bool) (w : World) (hr0_0 : Kd.C (Kd.slice 3 (Kd.int .i64)) w A0_0 l0_0.length l0_0) (hc0_0 : l0_0.length ≤ c0_0) (hr1_0 : Kd.C (Kd.int .i64) w A1_0 l1_0.length l1_0) (hc1_0 : l1_0.length ≤ c1_0) (h : impl_Enter.f k l0_0 l1_0 a1_1 a2_0 a2_1 a2_2 a2_3 a2_4 a2_5 a2_6 a2_7 a3 = some (r1, r2, r3, r4, r5, r6, r7, r8, r9, r10)) :
  Calls Try.prog 54 #[.agg #[.slice A0_0 l0_0.length c0_0], .agg #[.slice A1_0 l1_0.length c1_0, .int .i64 a1_1], .agg #[.int .i64 a2_0, .int .i64 a2_1, .int .i64 a2_2, .int .i64 a2_3, .bool a2_4, .bool a2_5, .bool a2_6, .bool a2_7], .int .i64 a3] w fun e w' => ∃ v0_ : Value, e = .returned (.tuple #[.agg #[v0_, .int .i64 r2], .agg #[.int .i64 r3, .int .i64 r4, .int .i64 r5, .int .i64 r6, .bool r7, .bool r8, .bool r9, .bool r10]]) ∧ Kd.R (Kd.int .i64) 3 w' w.heap.size (fun _ => True) v0_ r1 ∧ Below w.heap.size w w' := by
 unfold impl_Enter.f at h
 obtain ⟨⟨q1, q2⟩, hq, h2⟩ := Option.bind_eq_some_iff.mp h
 obtain ⟨fl, hfl, h3⟩ := Option.bind_eq_some_iff.mp h2
 obtain ⟨pc, hpc, h4⟩ := Option.bind_eq_some_iff.mp h3
 clear h h2 h3
 obtain ⟨rfl, rfl⟩ := copyMem_just hq
 cases h4
 exact implEnter_calls k A0_0 c0_0 l0_0 A1_0 c1_0 _ _ ⟨a2_0, a2_1, a2_2, a2_3, a2_4, a2_5, a2_6, a2_7⟩ a3 w hr0_0 hc0_0 hr1_0 hc1_0 hq fl hfl pc hpc

/-! ### spec_Addr: function 61 -/
def spec_Addr.f (a0 : Int) : Option (Int) := some (Go.bits .and .i64 a0 65535)
set_option maxHeartbeats 8000000 in
set_option maxRecDepth 100000 in
theorem spec_Addr.calls (a0 : Int) (r : Int) (w : World) (h : spec_Addr.f a0 = some r) :
  Calls Try.prog 61 #[.int .i64 a0] w fun e w' => e = .returned (.int .i64 r) ∧ Drawn0 w w' := by
 have H : (some (Go.bits .and .i64 a0 65535)) = some r := h
 clear h
 obtain rfl := Option.some.inj H
 go_enter Try.func61, Try.ntmps61
 go_wp2
 go_ret
 exact ⟨by first | rfl | (simp; done) | (simp [*]; done), by repeat (first | exact Drawn0.refl _ | apply Drawn0.step)⟩

/-! ### spec_Region: function 12 -/
def spec_Region.f (a0 : Int) : Option (Int × Int) := (spec_Addr.f a0).bind fun t685 => (if t685 < 8192 then (some (1, Int.tmod t685 512)) else (if t685 < 16384 then (some (2, Int.tmod t685 8)) else (if t685 < 16388 then (some (3, Int.tmod t685 4)) else (if t685 = 16406 then (some (4, 0)) else (if t685 < 32768 then (some (7, 0)) else (if t685 < 49152 then (some (5, Int.tmod t685 256)) else (some (6, Int.tmod t685 256))))))))
set_option maxHeartbeats 8000000 in
set_option maxRecDepth 100000 in
theorem spec_Region.calls (a0 : Int) (r1 : Int) (r2 : Int) (w : World) (h : spec_Region.f a0 = some (r1, r2)) :
  Calls Try.prog 12 #[.int .i64 a0] w fun e w' => e = .returned (.tuple #[.int .i64 r1, .int .i64 r2]) ∧ Drawn0 w w' := by
 have H : ((spec_Addr.f a0).bind fun t685 => (if t685 < 8192 then (some (1, Int.tmod t685 512)) else (if t685 < 16384 then (some (2, Int.tmod t685 8)) else (if t685 < 16388 then (some (3, Int.tmod t685 4)) else (if t685 = 16406 then (some (4, 0)) else (if t685 < 32768 then (some (7, 0)) else (if t685 < 49152 then (some (5, Int.tmod t685 256)) else (some (6, Int.tmod t685 256))))))))) = some (r1, r2) := h
 clear h
 replace H := Option.bind_eq_some_iff.mp H
 obtain ⟨t685, A20, H⟩ := H
 replace H : (if t685 < 8192 then (some (1, Int.tmod t685 512)) else (if t685 < 16384 then (some (2, Int.tmod t685 8)) else (if t685 < 16388 then (some (3, Int.tmod t685 4)) else (if t685 = 16406 then (some (4, 0)) else (if t685 < 32768 then (some (7, 0)) else (if t685 < 49152 then (some (5, Int.tmod t685 256)) else (some (6, Int.tmod t685 256)))))))) = some (r1, r2) := H
 have A2 := Aside0.mk A20
 clear A20
 by_cases c3 : t685 < 8192
 ·rw [if_pos c3] at H
  have c3b0 : decide (t685 < 8192) = true := decide_eq_true c3
  clear c3
  simp only [Option.some.injEq, Prod.mk.injEq] at H
  obtain ⟨rfl, rfl⟩ := H
  go_enter Try.func12, Try.ntmps12
  go_wp2_with (first | ((with_reducible refine gate_callee (f := 61) rfl ?_); refine goesM_ (some 6) rfl rfl Try.func61 #[.int .i64 a0] ?_; (with_reducible refine (spec_Addr.calls a0 t685 _ A2.out).mono ?_); rintro e w' ⟨rfl, ⟨nd, rfl⟩⟩; refine ⟨_, rfl, ?_⟩))
  go_ret2
  exact ⟨by first | rfl | (simp; done) | (simp [*]; done), by repeat (first | exact Drawn0.refl _ | apply Drawn0.step)⟩
 ·rw [if_neg c3] at H
  have c3b0 : decide (t685 < 8192) = false := decide_eq_false c3
  clear c3
  by_cases c4 : t685 < 16384
  ·rw [if_pos c4] at H
   have c4b0 : decide (t685 < 16384) = true := decide_eq_true c4
   clear c4
   simp only [Option.some.injEq, Prod.mk.injEq] at H
   obtain ⟨rfl, rfl⟩ := H
   go_enter Try.func12, Try.ntmps12
   go_wp2_with (first | ((with_reducible refine gate_callee (f := 61) rfl ?_); refine goesM_ (some 6) rfl rfl Try.func61 #[.int .i64 a0] ?_; (with_reducible refine (spec_Addr.calls a0 t685 _ A2.out).mono ?_); rintro e w' ⟨rfl, ⟨nd, rfl⟩⟩; refine ⟨_, rfl, ?_⟩))
   go_ret2
   exact ⟨by first | rfl | (simp; done) | (simp [*]; done), by repeat (first | exact Drawn0.refl _ | apply Drawn0.step)⟩
  ·rw [if_neg c4] at H
   have c4b0 : decide (t685 < 16384) = false := decide_eq_false c4
   clear c4
   by_cases c5 : t685 < 16388
   ·rw [if_pos c5] at H
    have c5b0 : decide (t685 < 16388) = true := decide_eq_true c5
    clear c5
    simp only [Option.some.injEq, Prod.mk.injEq] at H
    obtain ⟨rfl, rfl⟩ := H
    go_enter Try.func12, Try.ntmps12
    go_wp2_with (first | ((with_reducible refine gate_callee (f := 61) rfl ?_); refine goesM_ (some 6) rfl rfl Try.func61 #[.int .i64 a0] ?_; (with_reducible refine (spec_Addr.calls a0 t685 _ A2.out).mono ?_); rintro e w' ⟨rfl, ⟨nd, rfl⟩⟩; refine ⟨_, rfl, ?_⟩))
    go_ret2
    exact ⟨by first | rfl | (simp; done) | (simp [*]; done), by repeat (first | exact Drawn0.refl _ | apply Drawn0.step)⟩
   ·rw [if_neg c5] at H
    have c5b0 : decide (t685 < 16388) = false := decide_eq_false c5
    clear c5
    by_cases c6 : t685 = 16406
    ·rw [if_pos c6] at H
     have c6b0 : (t685 == 16406) = true := beq_iff_eq.mpr c6
     have c6b1 : (t685 != 16406) = false := bne_eq_false_iff_eq.mpr c6
     clear c6
     simp only [Option.some.injEq, Prod.mk.injEq] at H
     obtain ⟨rfl, rfl⟩ := H
     go_enter Try.func12, Try.ntmps12
     go_wp2_with (first | ((with_reducible refine gate_callee (f := 61) rfl ?_); refine goesM_ (some 6) rfl rfl Try.func61 #[.int .i64 a0] ?_; (with_reducible refine (spec_Addr.calls a0 t685 _ A2.out).mono ?_); rintro e w' ⟨rfl, ⟨nd, rfl⟩⟩; refine ⟨_, rfl, ?_⟩))
     go_ret2
     exact ⟨by first | rfl | (simp; done) | (simp [*]; done), by repeat (first | exact Drawn0.refl _ | apply Drawn0.step)⟩
    ·rw [if_neg c6] at H
     have c6b0 : (t685 == 16406) = false := beq_eq_false_iff_ne.mpr c6
     have c6b1 : (t685 != 16406) = true := bne_iff_ne.mpr c6
     by_cases c7 : t685 < 32768
     ·rw [if_pos c7] at H
      have c7b0 : decide (t685 < 32768) = true := decide_eq_true c7
      clear c7
      simp only [Option.some.injEq, Prod.mk.injEq] at H
      obtain ⟨rfl, rfl⟩ := H
      go_enter Try.func12, Try.ntmps12
      go_wp2_with (first | ((with_reducible refine gate_callee (f := 61) rfl ?_); refine goesM_ (some 6) rfl rfl Try.func61 #[.int .i64 a0] ?_; (with_reducible refine (spec_Addr.calls a0 t685 _ A2.out).mono ?_); rintro e w' ⟨rfl, ⟨nd, rfl⟩⟩; refine ⟨_, rfl, ?_⟩))
      go_ret2
      exact ⟨by first | rfl | (simp; done) | (simp [*]; done), by repeat (first | exact Drawn0.refl _ | apply Drawn0.step)⟩
     ·rw [if_neg c7] at H
      have c7b0 : decide (t685 < 32768) = false := decide_eq_false c7
      clear c7
      by_cases c8 : t685 < 49152
      ·rw [if_pos c8] at H
       have c8b0 : decide (t685 < 49152) = true := decide_eq_true c8
       clear c8
       simp only [Option.some.injEq, Prod.mk.injEq] at H
       obtain ⟨rfl, rfl⟩ := H
       go_enter Try.func12, Try.ntmps12
       go_wp2_with (first | ((with_reducible refine gate_callee (f := 61) rfl ?_); refine goesM_ (some 6) rfl rfl Try.func61 #[.int .i64 a0] ?_; (with_reducible refine (spec_Addr.calls a0 t685 _ A2.out).mono ?_); rintro e w' ⟨rfl, ⟨nd, rfl⟩⟩; refine ⟨_, rfl, ?_⟩))
       go_ret2
       exact ⟨by first | rfl | (simp; done) | (simp [*]; done), by repeat (first | exact Drawn0.refl _ | apply Drawn0.step)⟩
      ·rw [if_neg c8] at H
       have c8b0 : decide (t685 < 49152) = false := decide_eq_false c8
       clear c8
       simp only [Option.some.injEq, Prod.mk.injEq] at H
       obtain ⟨rfl, rfl⟩ := H
       go_enter Try.func12, Try.ntmps12
       go_wp2_with (first | ((with_reducible refine gate_callee (f := 61) rfl ?_); refine goesM_ (some 6) rfl rfl Try.func61 #[.int .i64 a0] ?_; (with_reducible refine (spec_Addr.calls a0 t685 _ A2.out).mono ?_); rintro e w' ⟨rfl, ⟨nd, rfl⟩⟩; refine ⟨_, rfl, ?_⟩))
       go_ret2
       exact ⟨by first | rfl | (simp; done) | (simp [*]; done), by repeat (first | exact Drawn0.refl _ | apply Drawn0.step)⟩

/-! ### spec_l6Peek: function 64 -/
def spec_l6Peek.f (l0_0 : List (List Int)) (l1_0 : List Int) (a1_1 : Int) (a2 : Int) : Option (Int) := (spec_Region.f a2).bind fun bt688 => (if bt688.1 = 1 then (if 0 ≤ bt688.2 then (if bt688.2 < (l1_0.length : Int) then (some (rd l1_0 bt688.2)) else (none)) else (none)) else (if bt688.1 = 5 then (if 0 ≤ a1_1 then (if a1_1 < (l0_0.length : Int) then (if 0 ≤ bt688.2 then (if bt688.2 < ((rd_L2 l0_0 a1_1).length : Int) then (some (rd (rd_L2 l0_0 a1_1) bt688.2)) else (none)) else (none)) else (none)) else (none)) else (if bt688.1 = 6 then (if 0 ≤ (wrap64 ((l0_0.length : Int) - 1)) then (if (wrap64 ((l0_0.length : Int) - 1)) < (l0_0.length : Int) then (if 0 ≤ bt688.2 then (if bt688.2 < ((rd_L2 l0_0 (wrap64 ((l0_0.length : Int) - 1))).length : Int) then (some (rd (rd_L2 l0_0 (wrap64 ((l0_0.length : Int) - 1))) bt688.2)) else (none)) else (none)) else (none)) else (none)) else (some 0))))
set_option maxHeartbeats 8000000 in
set_option maxRecDepth 100000 in
theorem spec_l6Peek.calls (A0_0 : Option Addr) (c0_0 : Nat) (l0_0 : List (List Int)) (A1_0 : Option Addr) (c1_0 : Nat) (l1_0 : List Int) (a1_1 : Int) (a2 : Int) (r : Int) (w : World) (hr0_0 : Kd.C (Kd.slice 3 (Kd.int .i64)) w A0_0 l0_0.length l0_0) (hc0_0 : l0_0.length ≤ c0_0) (hr1_0 : Kd.C (Kd.int .i64) w A1_0 l1_0.length l1_0) (hc1_0 : l1_0.length ≤ c1_0) (h : spec_l6Peek.f l0_0 l1_0 a1_1 a2 = some r) :
  Calls Try.prog 64 #[.agg #[.slice A0_0 l0_0.length c0_0], .agg #[.slice A1_0 l1_0.length c1_0, .int .i64 a1_1], .int .i64 a2] w fun e w' => e = .returned (.int .i64 r) ∧ Below w.heap.size w w' := by
 have hu29 := Try.underlying29
 have hu32 := Try.underlying32
 have HR0_0 := Aside0.mk hr0_0
 have HC0_0 := Aside0.mk hc0_0
 clear hr0_0 hc0_0
 have HR1_0 := Aside0.mk hr1_0
 have HC1_0 := Aside0.mk hc1_0
 clear hr1_0 hc1_0
 have HB := Aside0.mk (Below.refl w.heap.size w)
 have H : ((spec_Region.f a2).bind fun bt688 => (if bt688.1 = 1 then (if 0 ≤ bt688.2 then (if bt688.2 < (l1_0.length : Int) then (some (rd l1_0 bt688.2)) else (none)) else (none)) else (if bt688.1 = 5 then (if 0 ≤ a1_1 then (if a1_1 < (l0_0.length : Int) then (if 0 ≤ bt688.2 then (if bt688.2 < ((rd_L2 l0_0 a1_1).length : Int) then (some (rd (rd_L2 l0_0 a1_1) bt688.2)) else (none)) else (none)) else (none)) else (none)) else (if bt688.1 = 6 then (if 0 ≤ (wrap64 ((l0_0.length : Int) - 1)) then (if (wrap64 ((l0_0.length : Int) - 1)) < (l0_0.length : Int) then (if 0 ≤ bt688.2 then (if bt688.2 < ((rd_L2 l0_0 (wrap64 ((l0_0.length : Int) - 1))).length : Int) then (some (rd (rd_L2 l0_0 (wrap64 ((l0_0.length : Int) - 1))) bt688.2)) else (none)) else (none)) else (none)) else (none)) else (some 0))))) = some r := h
 clear h
 replace H := Option.bind_eq_some_iff.mp H
 obtain ⟨⟨t688, t689⟩, A40, H⟩ := H
 replace H : (if t688 = 1 then (if 0 ≤ t689 then (if t689 < (l1_0.length : Int) then (some (rd l1_0 t689)) else (none)) else (none)) else (if t688 = 5 then (if 0 ≤ a1_1 then (if a1_1 < (l0_0.length : Int) then (if 0 ≤ t689 then (if t689 < ((rd_L2 l0_0 a1_1).length : Int) then (some (rd (rd_L2 l0_0 a1_1) t689)) else (none)) else (none)) else (none)) else (none)) else (if t688 = 6 then (if 0 ≤ (wrap64 ((l0_0.length : Int) - 1)) then (if (wrap64 ((l0_0.length : Int) - 1)) < (l0_0.length : Int) then (if 0 ≤ t689 then (if t689 < ((rd_L2 l0_0 (wrap64 ((l0_0.length : Int) - 1))).length : Int) then (some (rd (rd_L2 l0_0 (wrap64 ((l0_0.length : Int) - 1))) t689)) else (none)) else (none)) else (none)) else (none)) else (some 0)))) = some r := H
 have A4 := Aside0.mk A40
 clear A40
 by_cases c5 : t688 = 1
 ·rw [if_pos c5] at H
  have c5b0 : (t688 == 1) = true := beq_iff_eq.mpr c5
  have c5b1 : (t688 != 1) = false := bne_eq_false_iff_eq.mpr c5
  clear c5
  by_cases c6 : 0 ≤ t689
  ·rw [if_pos c6] at H
   have c6b0 : decide (0 ≤ t689) = true := decide_eq_true c6
   clear c6
   by_cases c7 : t689 < (l1_0.length : Int)
   ·rw [if_pos c7] at H
    have c7b0 : decide (t689 < (l1_0.length : Int)) = true := decide_eq_true c7
    clear c7
    obtain rfl := Option.some.inj H
    go_enter Try.func64, Try.ntmps64
    go_wp2_with (first | ((with_reducible refine gate_dst (N := 3) rfl ?_); refine bx (N := 3) (cs := #[.slice A0_0 l0_0.length c0_0]) (t := 29) ?_; intro gb686 hg w8 hbox hb; have BK686 := Aside0.mk (hbox); have GW686 := Aside0.mk ((gs hg (bw HB.out))); have GE686 := Aside0.mk ((gs hg (bw HB.out))); replace HB := Aside0.mk (below_step (bw HB.out) hb); clear hb hbox hg) | ((with_reducible refine gate_dst (N := 4) rfl ?_); refine bx (N := 4) (cs := #[.slice A1_0 l1_0.length c1_0, .int .i64 a1_1]) (t := 32) ?_; intro gb687 hg w9 hbox hb; have BK687 := Aside0.mk (hbox); have GW687 := Aside0.mk ((gs hg (bw HB.out))); have GE687 := Aside0.mk ((gs hg (bw HB.out))); replace HB := Aside0.mk (below_step (bw HB.out) hb); have NB686_687 := Aside0.mk ((ga hg BK686.out)); have NB687_686 := Aside0.mk ((gc hg BK686.out)); replace BK686 := Aside0.mk (bb BK686 hb); clear hb hbox hg) | ((with_reducible refine gate_callee (f := 12) rfl ?_); refine goesM_ (some 11) rfl rfl Try.func12 #[.int .i64 a2] ?_; (with_reducible refine (spec_Region.calls a2 t688 t689 _ A4.out).mono ?_); rintro e w' ⟨rfl, ⟨nd, rfl⟩⟩; refine ⟨_, rfl, ?_⟩; have hnb10 := NB687_686.out; have hnc10 := NB686_687.out; obtain ⟨hcz11_0, hcz11_1⟩ := ce2 BK687; obtain ⟨hfz11_0, hfz11_1⟩ := fz2 BK687; have p690 : 0 ≤ (t689 : Int) := dt; have q690 : t689 < (l1_0.length : Int) := dt; obtain ⟨ad690, e690, hx690_0⟩ := Kd.at_int HR1_0.out t689 p690 q690; cases e690; replace hx690_0 := (HB.out.cell (World.block_lt_of_cell? w _ hx690_0)).trans hx690_0; replace p690 := eq_true p690; replace q690 := eq_true q690))
    go_ret
    exact ⟨rt, bw HB.out⟩
   ·rw [if_neg c7] at H
    exact absurd H (by simp)
  ·rw [if_neg c6] at H
   exact absurd H (by simp)
 ·rw [if_neg c5] at H
  have c5b0 : (t688 == 1) = false := beq_eq_false_iff_ne.mpr c5
  have c5b1 : (t688 != 1) = true := bne_iff_ne.mpr c5
  by_cases c12 : t688 = 5
  ·rw [if_pos c12] at H
   have c12b0 : (t688 == 5) = true := beq_iff_eq.mpr c12
   have c12b1 : (t688 != 5) = false := bne_eq_false_iff_eq.mpr c12
   clear c12
   by_cases c13 : 0 ≤ a1_1
   ·rw [if_pos c13] at H
    have c13b0 : decide (0 ≤ a1_1) = true := decide_eq_true c13
    clear c13
    by_cases c14 : a1_1 < (l0_0.length : Int)
    ·rw [if_pos c14] at H
     have c14b0 : decide (a1_1 < (l0_0.length : Int)) = true := decide_eq_true c14
     clear c14
     by_cases c15 : 0 ≤ t689
     ·rw [if_pos c15] at H
      have c15b0 : decide (0 ≤ t689) = true := decide_eq_true c15
      clear c15
      by_cases c16 : t689 < ((rd_L2 l0_0 a1_1).length : Int)
      ·rw [if_pos c16] at H
       have c16b0 : decide (t689 < ((rd_L2 l0_0 a1_1).length : Int)) = true := decide_eq_true c16
       clear c16
       obtain rfl := Option.some.inj H
       go_enter Try.func64, Try.ntmps64
       go_wp2_with (first | ((with_reducible refine gate_dst (N := 3) rfl ?_); refine bx (N := 3) (cs := #[.slice A0_0 l0_0.length c0_0]) (t := 29) ?_; intro gb686 hg w17 hbox hb; have BK686 := Aside0.mk (hbox); have GW686 := Aside0.mk ((gs hg (bw HB.out))); have GE686 := Aside0.mk ((gs hg (bw HB.out))); replace HB := Aside0.mk (below_step (bw HB.out) hb); clear hb hbox hg) | ((with_reducible refine gate_dst (N := 4) rfl ?_); refine bx (N := 4) (cs := #[.slice A1_0 l1_0.length c1_0, .int .i64 a1_1]) (t := 32) ?_; intro gb687 hg w18 hbox hb; have BK687 := Aside0.mk (hbox); have GW687 := Aside0.mk ((gs hg (bw HB.out))); have GE687 := Aside0.mk ((gs hg (bw HB.out))); replace HB := Aside0.mk (below_step (bw HB.out) hb); have NB686_687 := Aside0.mk ((ga hg BK686.out)); have NB687_686 := Aside0.mk ((gc hg BK686.out)); replace BK686 := Aside0.mk (bb BK686 hb); clear hb hbox hg) | ((with_reducible refine gate_callee (f := 12) rfl ?_); refine goesM_ (some 11) rfl rfl Try.func12 #[.int .i64 a2] ?_; (with_reducible refine (spec_Region.calls a2 t688 t689 _ A4.out).mono ?_); rintro e w' ⟨rfl, ⟨nd, rfl⟩⟩; refine ⟨_, rfl, ?_⟩; have hnb19 := NB686_687.out; have hnc19 := NB687_686.out; have hcz20_0 : w18.cell? ⟨gb686, 0, none⟩ = some (.slice A0_0 l0_0.length c0_0) := cl BK686 0; have hfz20_0 := blk_frozen BK686.out 0; obtain ⟨hcz21_0, hcz21_1⟩ := ce2 BK687; obtain ⟨hfz21_0, hfz21_1⟩ := fz2 BK687; have p691 : 0 ≤ (a1_1 : Int) := dt; have q691 : a1_1 < (l0_0.length : Int) := dt; obtain ⟨ad691, A691_0, c691_0, e691, hx691_0, hl691_0, hi691_0⟩ := at_L2 HR0_0.out a1_1 p691 q691; cases e691; replace hx691_0 := (HB.out.cell (World.block_lt_of_cell? w _ hx691_0)).trans hx691_0; have HR691_0 := Aside0.mk hi691_0; have HC691_0 := Aside0.mk hl691_0; clear hi691_0 hl691_0; replace p691 := eq_true p691; replace q691 := eq_true q691; have p692 : 0 ≤ (t689 : Int) := dt; have q692 : t689 < ((rd_L2 l0_0 a1_1).length : Int) := dt; obtain ⟨ad692, e692, hx692_0⟩ := Kd.at_int HR691_0.out t689 p692 q692; cases e692; replace hx692_0 := (HB.out.cell (World.block_lt_of_cell? w _ hx692_0)).trans hx692_0; replace p692 := eq_true p692; replace q692 := eq_true q692))
       go_ret
       exact ⟨rt, bw HB.out⟩
      ·rw [if_neg c16] at H
       exact absurd H (by simp)
     ·rw [if_neg c15] at H
      exact absurd H (by simp)
    ·rw [if_neg c14] at H
     exact absurd H (by simp)
   ·rw [if_neg c13] at H
    exact absurd H (by simp)
  ·rw [if_neg c12] at H
   have c12b0 : (t688 == 5) = false := beq_eq_false_iff_ne.mpr c12
   have c12b1 : (t688 != 5) = true := bne_iff_ne.mpr c12
   by_cases c22 : t688 = 6
   ·rw [if_pos c22] at H
    have c22b0 : (t688 == 6) = true := beq_iff_eq.mpr c22
    have c22b1 : (t688 != 6) = false := bne_eq_false_iff_eq.mpr c22
    clear c22
    obtain ⟨ji23, hji23⟩ : ∃ j_ : Int, (wrap64 ((l0_0.length : Int) - 1)) = j_ := ⟨_, rfl⟩
    replace H : (if 0 ≤ (ji23) then (if (ji23) < (l0_0.length : Int) then (if 0 ≤ t689 then (if t689 < ((rd_L2 l0_0 (ji23)).length : Int) then (some (rd (rd_L2 l0_0 (ji23)) t689)) else (none)) else (none)) else (none)) else (none)) = some r := by first | (rw [hji23] at H; exact H) | (simp only [hji23] at H ⊢; exact H)
    (try rw [hji23] at A4)
    have hji23w : (IntKind.i64.wrap ((l0_0.length : Int) - 1)) = ji23 := (i64_w _).trans hji23
    by_cases c24 : 0 ≤ (ji23)
    ·rw [if_pos c24] at H
     have c24b0 : decide (0 ≤ (ji23)) = true := decide_eq_true c24
     clear c24
     by_cases c25 : (ji23) < (l0_0.length : Int)
     ·rw [if_pos c25] at H
      have c25b0 : decide ((ji23) < (l0_0.length : Int)) = true := decide_eq_true c25
      clear c25
      by_cases c26 : 0 ≤ t689
      ·rw [if_pos c26] at H
       have c26b0 : decide (0 ≤ t689) = true := decide_eq_true c26
       clear c26
       by_cases c27 : t689 < ((rd_L2 l0_0 (ji23)).length : Int)
       ·rw [if_pos c27] at H
        have c27b0 : decide (t689 < ((rd_L2 l0_0 (ji23)).length : Int)) = true := decide_eq_true c27
        clear c27
        obtain rfl := Option.some.inj H
        go_enter Try.func64, Try.ntmps64
        go_wp2_with (first | ((with_reducible refine gate_dst (N := 3) rfl ?_); refine bx (N := 3) (cs := #[.slice A0_0 l0_0.length c0_0]) (t := 29) ?_; intro gb686 hg w28 hbox hb; have BK686 := Aside0.mk (hbox); have GW686 := Aside0.mk ((gs hg (bw HB.out))); have GE686 := Aside0.mk ((gs hg (bw HB.out))); replace HB := Aside0.mk (below_step (bw HB.out) hb); clear hb hbox hg) | ((with_reducible refine gate_dst (N := 4) rfl ?_); refine bx (N := 4) (cs := #[.slice A1_0 l1_0.length c1_0, .int .i64 a1_1]) (t := 32) ?_; intro gb687 hg w29 hbox hb; have BK687 := Aside0.mk (hbox); have GW687 := Aside0.mk ((gs hg (bw HB.out))); have GE687 := Aside0.mk ((gs hg (bw HB.out))); replace HB := Aside0.mk (below_step (bw HB.out) hb); have NB686_687 := Aside0.mk ((ga hg BK686.out)); have NB687_686 := Aside0.mk ((gc hg BK686.out)); replace BK686 := Aside0.mk (bb BK686 hb); clear hb hbox hg) | ((with_reducible refine gate_callee (f := 12) rfl ?_); refine goesM_ (some 11) rfl rfl Try.func12 #[.int .i64 a2] ?_; (with_reducible refine (spec_Region.calls a2 t688 t689 _ A4.out).mono ?_); rintro e w' ⟨rfl, ⟨nd, rfl⟩⟩; refine ⟨_, rfl, ?_⟩; have hnb30 := NB686_687.out; have hnc30 := NB687_686.out; have hcz31_0 : w29.cell? ⟨gb686, 0, none⟩ = some (.slice A0_0 l0_0.length c0_0) := cl BK686 0; have hfz31_0 := blk_frozen BK686.out 0; have p693 : 0 ≤ ((ji23) : Int) := dt; have q693 : (ji23) < (l0_0.length : Int) := dt; obtain ⟨ad693, A693_0, c693_0, e693, hx693_0, hl693_0, hi693_0⟩ := at_L2 HR0_0.out (ji23) p693 q693; cases e693; replace hx693_0 := (HB.out.cell (World.block_lt_of_cell? w _ hx693_0)).trans hx693_0; have HR693_0 := Aside0.mk hi693_0; have HC693_0 := Aside0.mk hl693_0; clear hi693_0 hl693_0; replace p693 := eq_true p693; replace q693 := eq_true q693; have p694 : 0 ≤ (t689 : Int) := dt; have q694 : t689 < ((rd_L2 l0_0 (ji23)).length : Int) := dt; obtain ⟨ad694, e694, hx694_0⟩ := Kd.at_int HR693_0.out t689 p694 q694; cases e694; replace hx694_0 := (HB.out.cell (World.block_lt_of_cell? w _ hx694_0)).trans hx694_0; replace p694 := eq_true p694; replace q694 := eq_true q694))
        go_ret
        exact ⟨by first | rfl | (simp [errW_none, errW_some] <;> rfl) | (simp only [← hji23]; first | rfl | (simp [errW_none, errW_some] <;> rfl)) | (simp [*, errW_none, errW_some] <;> rfl), bw HB.out⟩
       ·rw [if_neg c27] at H
        exact absurd H (by simp)
      ·rw [if_neg c26] at H
       exact absurd H (by simp)
     ·rw [if_neg c25] at H
      exact absurd H (by simp)
    ·rw [if_neg c24] at H
     exact absurd H (by simp)
   ·rw [if_neg c22] at H
    have c22b0 : (t688 == 6) = false := beq_eq_false_iff_ne.mpr c22
    have c22b1 : (t688 != 6) = true := bne_iff_ne.mpr c22
    obtain rfl := Option.some.inj H
    go_enter Try.func64, Try.ntmps64
    go_wp2_with (first | ((with_reducible refine gate_dst (N := 3) rfl ?_); refine bx (N := 3) (cs := #[.slice A0_0 l0_0.length c0_0]) (t := 29) ?_; intro gb686 hg w32 hbox hb; have BK686 := Aside0.mk (hbox); have GW686 := Aside0.mk ((gs hg (bw HB.out))); have GE686 := Aside0.mk ((gs hg (bw HB.out))); replace HB := Aside0.mk (below_step (bw HB.out) hb); clear hb hbox hg) | ((with_reducible refine gate_dst (N := 4) rfl ?_); refine bx (N := 4) (cs := #[.slice A1_0 l1_0.length c1_0, .int .i64 a1_1]) (t := 32) ?_; intro gb687 hg w33 hbox hb; have BK687 := Aside0.mk (hbox); have GW687 := Aside0.mk ((gs hg (bw HB.out))); have GE687 := Aside0.mk ((gs hg (bw HB.out))); replace HB := Aside0.mk (below_step (bw HB.out) hb); have NB686_687 := Aside0.mk ((ga hg BK686.out)); have NB687_686 := Aside0.mk ((gc hg BK686.out)); replace BK686 := Aside0.mk (bb BK686 hb); clear hb hbox hg) | ((with_reducible refine gate_callee (f := 12) rfl ?_); refine goesM_ (some 11) rfl rfl Try.func12 #[.int .i64 a2] ?_; (with_reducible refine (spec_Region.calls a2 t688 t689 _ A4.out).mono ?_); rintro e w' ⟨rfl, ⟨nd, rfl⟩⟩; refine ⟨_, rfl, ?_⟩))
    go_ret
    exact ⟨rt, bw HB.out⟩

end Go.Proofs.Ytmkccgbfgebfbaa.MFnEntered
