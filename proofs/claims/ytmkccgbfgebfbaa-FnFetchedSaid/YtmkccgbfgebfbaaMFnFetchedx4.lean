/- Walks of functions that the law FnFetched reaches: each comes to just what its Lean function says. (Begun as the texts that print.sh wrote for this claim; some of them, and those that it does not write, are mine.) No condition. -/
import Derived.Test.YtmkccgbfgebfbaaMFnFetchedx3
namespace Go.Proofs.Ytmkccgbfgebfbaa.MFnFetched
open Go.RowKit Go.Proofs.YtmkccgbfgebfbaaW.PrintWords Go.Proofs.YtmkccgbfgebfbaaW.PrintLast Go.Proofs.YtmkccgbfgebfbaaW.PrintMore
attribute [local go_sem] max2_int min2_int max_two min_two max_three min_three max_four min_four   -- for this text's walks alone
set_option linter.unusedVariables false
set_option linter.unusedSimpArgs false

/-! ### impl_fetch: function 80 -/
def impl_fetch.f (k : Nat) (l0_0 : List (List Int)) (l1_0 : List Int) (a1_1 : Int) (a2 : Int) : Option (Int × Int) := (impl_peek.f l0_0 l1_0 a1_1 a2).bind fun t412 => ((impl_OpLen.f k t412).bind fun t414 => (if t414 = 2 then ((impl_peek.f l0_0 l1_0 a1_1 (wrap64 (a2 + 1))).bind fun t415 => (some (t412, t415))) else (if t414 = 3 then ((impl_peek.f l0_0 l1_0 a1_1 (wrap64 (a2 + 1))).bind fun t416 => ((impl_peek.f l0_0 l1_0 a1_1 (wrap64 (a2 + 2))).bind fun t417 => ((impl_Join.f t416 t417).bind fun t418 => (some (t412, t418))))) else (some (t412, 0)))))
def impl_fetch.T6 : Bool × List (List Nat × List Nat) := (true, [([], []), ([], []), ([], []), ([2], [2]), ([0, 1, 3], [0, 1, 3]), ([], []), ([], []), ([], []), ([7], [7]), ([5, 6, 8, 4], [5, 6, 8]), ([4, 9, 9], [4, 9]), ([0, 1, 2, 3, 4, 5, 6, 7, 8, 9, 10], []), ([11, 10, 10, 0, 1, 2, 3, 4, 5, 6, 7, 8, 9, 10], [10, 11])])
def impl_fetch.B6 : List Nat := [0, 0, 0, 4, 15, 0, 0, 0, 128, 511, 1023, 2047, 4095]
theorem impl_fetch.tab6 : rtab .any (opsOf Try.f80 6) = impl_fetch.T6 := by kernel_rfl
theorem impl_fetch.bits6 : waitsOk impl_fetch.T6.2 impl_fetch.B6 = true := by kernel_rfl
set_option maxHeartbeats 8000000 in
set_option maxRecDepth 100000 in
theorem impl_fetch.calls (k : Nat) (A0_0 : Option Addr) (c0_0 : Nat) (l0_0 : List (List Int)) (A1_0 : Option Addr) (c1_0 : Nat) (l1_0 : List Int) (a1_1 : Int) (a2 : Int) (r1 : Int) (r2 : Int) (w : World) (hr0_0 : Kd.C (Kd.slice 3 (Kd.int .i64)) w A0_0 l0_0.length l0_0) (hc0_0 : l0_0.length ≤ c0_0) (hr1_0 : Kd.C (Kd.int .i64) w A1_0 l1_0.length l1_0) (hc1_0 : l1_0.length ≤ c1_0) (h : impl_fetch.f k l0_0 l1_0 a1_1 a2 = some (r1, r2)) :
  Calls Try.prog 80 #[.agg #[.slice A0_0 l0_0.length c0_0], .agg #[.slice A1_0 l1_0.length c1_0, .int .i64 a1_1], .int .i64 a2] w fun e w' => e = .returned (.agg #[.int .i64 r1, .int .i64 r2]) ∧ Below w.heap.size w w' := by
 have hu29 := Try.underlying29
 have hu32 := Try.underlying32
 have hu51 := Try.underlying51
 have HR0_0 := Aside0.mk hr0_0
 have HC0_0 := Aside0.mk hc0_0
 clear hr0_0 hc0_0
 have HR1_0 := Aside0.mk hr1_0
 have HC1_0 := Aside0.mk hc1_0
 clear hr1_0 hc1_0
 have HB := Aside0.mk (Below.refl w.heap.size w)
 have H : ((impl_peek.f l0_0 l1_0 a1_1 a2).bind fun t412 => ((impl_OpLen.f k t412).bind fun t414 => (if t414 = 2 then ((impl_peek.f l0_0 l1_0 a1_1 (wrap64 (a2 + 1))).bind fun t415 => (some (t412, t415))) else (if t414 = 3 then ((impl_peek.f l0_0 l1_0 a1_1 (wrap64 (a2 + 1))).bind fun t416 => ((impl_peek.f l0_0 l1_0 a1_1 (wrap64 (a2 + 2))).bind fun t417 => ((impl_Join.f t416 t417).bind fun t418 => (some (t412, t418))))) else (some (t412, 0)))))) = some (r1, r2) := h
 clear h
 replace H := Option.bind_eq_some_iff.mp H
 obtain ⟨t412, A40, H⟩ := H
 replace H : ((impl_OpLen.f k t412).bind fun t414 => (if t414 = 2 then ((impl_peek.f l0_0 l1_0 a1_1 (wrap64 (a2 + 1))).bind fun t415 => (some (t412, t415))) else (if t414 = 3 then ((impl_peek.f l0_0 l1_0 a1_1 (wrap64 (a2 + 1))).bind fun t416 => ((impl_peek.f l0_0 l1_0 a1_1 (wrap64 (a2 + 2))).bind fun t417 => ((impl_Join.f t416 t417).bind fun t418 => (some (t412, t418))))) else (some (t412, 0))))) = some (r1, r2) := H
 have A4 := Aside0.mk A40
 clear A40
 replace H := Option.bind_eq_some_iff.mp H
 obtain ⟨t414, A50, H⟩ := H
 replace H : (if t414 = 2 then ((impl_peek.f l0_0 l1_0 a1_1 (wrap64 (a2 + 1))).bind fun t415 => (some (t412, t415))) else (if t414 = 3 then ((impl_peek.f l0_0 l1_0 a1_1 (wrap64 (a2 + 1))).bind fun t416 => ((impl_peek.f l0_0 l1_0 a1_1 (wrap64 (a2 + 2))).bind fun t417 => ((impl_Join.f t416 t417).bind fun t418 => (some (t412, t418))))) else (some (t412, 0)))) = some (r1, r2) := H
 have A5 := Aside0.mk A50
 clear A50
 by_cases c6 : t414 = 2
 ·rw [if_pos c6] at H
  have c6b0 : (t414 == 2) = true := beq_iff_eq.mpr c6
  have c6b1 : (t414 != 2) = false := bne_eq_false_iff_eq.mpr c6
  clear c6
  replace H := Option.bind_eq_some_iff.mp H
  obtain ⟨t415, A70, H⟩ := H
  replace H : (some (t412, t415)) = some (r1, r2) := H
  have A7 := Aside0.mk A70
  clear A70
  simp only [Option.some.injEq, Prod.mk.injEq] at H
  obtain ⟨rfl, rfl⟩ := H
  go_enter Try.func80, Try.ntmps80
  go_wp2_with (first | ((with_reducible refine gate_dst (N := 3) rfl ?_); refine bx (N := 3) (cs := #[.slice A0_0 l0_0.length c0_0]) (t := 29) ?_; intro gb409 hg w8 hbox hb; have n0_ := Aside0.mk (below_step (bw HB.out) hb); have n1_ := Aside0.mk (hbox); have n2_ := Aside0.mk ((gs hg (bw HB.out))); have n3_ := Aside0.mk ((gs hg (bw HB.out))); clear HB; have HB := n0_; have BK409 := n1_; have GW409 := n2_; have GE409 := n3_; clear n0_ n1_ n2_ n3_; clear hb hbox hg) | ((with_reducible refine gate_dst (N := 4) rfl ?_); refine bx (N := 4) (cs := #[.slice A1_0 l1_0.length c1_0, .int .i64 a1_1]) (t := 32) ?_; intro gb410 hg w9 hbox hb; have n0_ := Aside0.mk (blk_below (g := gb409) (o := .cells #[.slice A0_0 l0_0.length c0_0] 29 (0, 0)) (kb BK409.out) hb); have n1_ := Aside0.mk (below_step (bw HB.out) hb); have n2_ := Aside0.mk (hbox); have n3_ := Aside0.mk ((gs hg (bw HB.out))); have n4_ := Aside0.mk ((gs hg (bw HB.out))); have n5_ := Aside0.mk ((ga hg BK409.out)); have n6_ := Aside0.mk ((gc hg BK409.out)); clear BK409; clear HB; have BK409 := n0_; have HB := n1_; have BK410 := n2_; have GW410 := n3_; have GE410 := n4_; have NB409_410 := n5_; have NB410_409 := n6_; clear n0_ n1_ n2_ n3_ n4_ n5_ n6_; clear hb hbox hg) | ((with_reducible refine gate_dst (N := 6) rfl ?_); refine bx (N := 6) (cs := #[.int .i64 0, .int .i64 0]) (t := 51) ?_; intro gb411 hg w10 hbox hb; have n0_ := Aside0.mk (blk_below (g := gb409) (o := .cells #[.slice A0_0 l0_0.length c0_0] 29 (0, 0)) (kb BK409.out) hb); have n1_ := Aside0.mk (blk_below (g := gb410) (o := .cells #[.slice A1_0 l1_0.length c1_0, .int .i64 a1_1] 32 (0, 0)) (kb BK410.out) hb); have n2_ := Aside0.mk (below_step (bw HB.out) hb); have n3_ := Aside0.mk (hbox); have n4_ := Aside0.mk ((gs hg (bw HB.out))); have n5_ := Aside0.mk ((gs hg (bw HB.out))); have n6_ := Aside0.mk ((ga hg BK409.out)); have n7_ := Aside0.mk ((gc hg BK409.out)); have n8_ := Aside0.mk ((ga hg BK410.out)); have n9_ := Aside0.mk ((gc hg BK410.out)); clear BK409; clear BK410; clear HB; have BK409 := n0_; have BK410 := n1_; have HB := n2_; have BK411 := n3_; have GW411 := n4_; have GE411 := n5_; have NB409_411 := n6_; have NB411_409 := n7_; have NB410_411 := n8_; have NB411_410 := n9_; clear n0_ n1_ n2_ n3_ n4_ n5_ n6_ n7_ n8_ n9_; clear hb hbox hg; have hnb11 := NB409_410.out; have hnc11 := NB410_409.out; have hnb12 := NB409_411.out; have hnc12 := NB411_409.out; have hcz13_0 : w10.cell? ⟨gb409, 0, none⟩ = some (.slice A0_0 l0_0.length c0_0) := cl BK409 0; have hfz13_0 := blk_frozen BK409.out 0; have hnb14 := NB410_411.out; have hnc14 := NB411_410.out; have hcz15_0 : w10.cell? ⟨gb410, 0, none⟩ = some (.slice A1_0 l1_0.length c1_0) := cl BK410 0; have hcz15_1 : w10.cell? ⟨gb410, 1, none⟩ = some (.int .i64 a1_1) := cl BK410 1; have hfz15_0 := blk_frozen BK410.out 0; have hfz15_1 := blk_frozen BK410.out 1) | ((with_reducible refine gate_callee (f := 63) rfl ?_); refine goesM_ (some 11) rfl rfl Try.func63 #[.agg #[.slice A0_0 l0_0.length c0_0], .agg #[.slice A1_0 l1_0.length c1_0, .int .i64 a1_1], .int .i64 a2] ?_; (with_reducible refine (impl_peek.calls _ _ l0_0 _ _ l1_0 a1_1 a2 t412 _ ?side1 ?side2 ?side3 ?side4 A4.out).mono ?_); (case side1 => exact kc (Kd.C_below HR0_0.out HB.out)); (case side2 => exact HC0_0.out); (case side3 => exact kc (Kd.C_below HR1_0.out HB.out)); (case side4 => exact HC1_0.out); rintro e w16 ⟨rfl, hb⟩; refine ⟨_, rfl, ?_⟩; have n0_ := Aside0.mk (blk_below (g := gb409) (o := .cells #[.slice A0_0 l0_0.length c0_0] 29 (0, 0)) (kb BK409.out) hb); have n1_ := Aside0.mk (blk_below (g := gb410) (o := .cells #[.slice A1_0 l1_0.length c1_0, .int .i64 a1_1] 32 (0, 0)) (kb BK410.out) hb); have n2_ := Aside0.mk (blk_below (g := gb411) (o := .cells #[.int .i64 0, .int .i64 0] 51 (0, 0)) (kb BK411.out) hb); have n3_ := Aside0.mk (below_step (bw HB.out) hb); clear BK409; clear BK410; clear BK411; clear HB; have BK409 := n0_; have BK410 := n1_; have BK411 := n2_; have HB := n3_; clear n0_ n1_ n2_ n3_; (try clear hb); (try clear hb2); (try clear hk); (try clear hi)) | ((with_reducible refine gate_dst (N := 7) rfl ?_); refine bx (N := 7) (cs := #[.int .i64 0, .int .i64 0]) (t := 51) ?_; intro gb413 hg w17 hbox hb; have n0_ := Aside0.mk (blk_below (g := gb409) (o := .cells #[.slice A0_0 l0_0.length c0_0] 29 (0, 0)) (kb BK409.out) hb); have n1_ := Aside0.mk (blk_below (g := gb410) (o := .cells #[.slice A1_0 l1_0.length c1_0, .int .i64 a1_1] 32 (0, 0)) (kb BK410.out) hb); have n2_ := Aside0.mk (blk_below (g := gb411) (o := .cells #[.int .i64 0, .int .i64 0] 51 (0, 0)) (kb BK411.out) hb); have n3_ := Aside0.mk (below_step (bw HB.out) hb); have n4_ := Aside0.mk (hbox); have n5_ := Aside0.mk ((gs hg (bw HB.out))); have n6_ := Aside0.mk ((gs hg (bw HB.out))); have n7_ := Aside0.mk ((ga hg BK409.out)); have n8_ := Aside0.mk ((gc hg BK409.out)); have n9_ := Aside0.mk ((ga hg BK410.out)); have n10_ := Aside0.mk ((gc hg BK410.out)); have n11_ := Aside0.mk ((ga hg BK411.out)); have n12_ := Aside0.mk ((gc hg BK411.out)); clear BK409; clear BK410; clear BK411; clear HB; have BK409 := n0_; have BK410 := n1_; have BK411 := n2_; have HB := n3_; have BK413 := n4_; have GW413 := n5_; have GE413 := n6_; have NB409_413 := n7_; have NB413_409 := n8_; have NB410_413 := n9_; have NB413_410 := n10_; have NB411_413 := n11_; have NB413_411 := n12_; clear n0_ n1_ n2_ n3_ n4_ n5_ n6_ n7_ n8_ n9_ n10_ n11_ n12_; clear hb hbox hg; have hnb18 := NB413_409.out; have hnc18 := NB409_413.out; have hnb19 := NB413_410.out; have hnc19 := NB410_413.out; have hnb20 := NB413_411.out; have hnc20 := NB411_413.out; have hcz21_0 : w17.cell? ⟨gb413, 0, none⟩ = some (.int .i64 0) := cl BK413 0; have hcz21_1 : w17.cell? ⟨gb413, 1, none⟩ = some (.int .i64 0) := cl BK413 1; have hfz21_0 := blk_frozen BK413.out 0; have hfz21_1 := blk_frozen BK413.out 1) | ((with_reducible refine gate_callee (f := 38) rfl ?_); refine goesM_ (some 15) rfl rfl Try.func38 #[.int .i64 t412] ?_; (with_reducible refine (impl_OpLen.calls k t412 t414 _ A5.out).mono ?_); rintro e w' ⟨rfl, ⟨nd, rfl⟩⟩; refine ⟨_, rfl, ?_⟩; have hcz22_0 : w17.cell? ⟨gb409, 0, none⟩ = some (.slice A0_0 l0_0.length c0_0) := cl BK409 0; have hfz22_0 := blk_frozen BK409.out 0; have hcz23_0 : w17.cell? ⟨gb410, 0, none⟩ = some (.slice A1_0 l1_0.length c1_0) := cl BK410 0; have hcz23_1 : w17.cell? ⟨gb410, 1, none⟩ = some (.int .i64 a1_1) := cl BK410 1; have hfz23_0 := blk_frozen BK410.out 0; have hfz23_1 := blk_frozen BK410.out 1) | ((with_reducible refine gate_callee (f := 63) rfl ?_); refine goesM_ (some 22) rfl rfl Try.func63 #[.agg #[.slice A0_0 l0_0.length c0_0], .agg #[.slice A1_0 l1_0.length c1_0, .int .i64 a1_1], .int .i64 (wrap64 (a2 + 1))] ?_; (with_reducible refine (impl_peek.calls _ _ l0_0 _ _ l1_0 a1_1 (wrap64 (a2 + 1)) t415 _ ?side1 ?side2 ?side3 ?side4 A7.out).mono ?_); (case side1 => exact Kd.C_below HR0_0.out (bw HB.out)); (case side2 => exact HC0_0.out); (case side3 => exact Kd.C_below HR1_0.out (bw HB.out)); (case side4 => exact HC1_0.out); rintro e w24 ⟨rfl, hb⟩; refine ⟨_, rfl, ?_⟩; have n0_ := Aside0.mk (blk_below (g := gb409) (o := .cells #[.slice A0_0 l0_0.length c0_0] 29 (0, 0)) (kf BK409.out) hb); have n1_ := Aside0.mk (blk_below (g := gb410) (o := .cells #[.slice A1_0 l1_0.length c1_0, .int .i64 a1_1] 32 (0, 0)) (kf BK410.out) hb); have n2_ := Aside0.mk (blk_below (g := gb411) (o := .cells #[.int .i64 0, .int .i64 0] 51 (0, 0)) (kf BK411.out) hb); have n3_ := Aside0.mk (blk_below (g := gb413) (o := .cells #[.int .i64 t412, .int .i64 0] 51 (0, 0)) (by (with_reducible repeat (first | refine blk_drewN ?_ _ | refine blk_drew ?_ | refine blk_alloc ?_ _)); refine blk_put (cs := #[.int .i64 t412, .int .i64 0]) ?_ 1 _ rfl; (with_reducible repeat (first | refine blk_drewN ?_ _ | refine blk_drew ?_ | refine blk_alloc ?_ _)); refine blk_put (cs := #[.int .i64 0, .int .i64 0]) ?_ 0 _ rfl; (with_reducible repeat (first | refine blk_drewN ?_ _ | refine blk_drew ?_ | refine blk_alloc ?_ _)); exact BK413.out) hb); have n4_ := Aside0.mk (below_step (bw HB.out) hb); clear BK409; clear BK410; clear BK411; clear BK413; clear HB; have BK409 := n0_; have BK410 := n1_; have BK411 := n2_; have BK413 := n3_; have HB := n4_; clear n0_ n1_ n2_ n3_ n4_; (try clear hb); (try clear hb2); (try clear hk); (try clear hi); have hcz25_0 : w24.cell? ⟨gb413, 0, none⟩ = some (.int .i64 t412) := cl BK413 0; have hcz25_1 : w24.cell? ⟨gb413, 1, none⟩ = some (.int .i64 0) := cl BK413 1; have hfz25_0 := blk_frozen BK413.out 0; have hfz25_1 := blk_frozen BK413.out 1; have hcz26_0 : w24.cell? ⟨gb411, 0, none⟩ = some (.int .i64 0) := cl BK411 0; have hcz26_1 : w24.cell? ⟨gb411, 1, none⟩ = some (.int .i64 0) := cl BK411 1; have hfz26_0 := blk_frozen BK411.out 0; have hfz26_1 := blk_frozen BK411.out 1))
  refine bodyPost_ret (results_cell_row rfl _ _ gb411 51 #[.int .i64 t412, .int .i64 t415] (0, 0) _ rfl (by (with_reducible repeat (first | refine blk_drewN ?_ _ | refine blk_drew ?_ | refine blk_alloc ?_ _)); refine blk_put (cs := #[.int .i64 t412, .int .i64 0]) ?_ 1 _ rfl; (with_reducible repeat (first | refine blk_drewN ?_ _ | refine blk_drew ?_ | refine blk_alloc ?_ _)); refine blk_put (cs := #[.int .i64 0, .int .i64 0]) ?_ 0 _ rfl; (with_reducible repeat (first | refine blk_drewN ?_ _ | refine blk_drew ?_ | refine blk_alloc ?_ _)); refine blk_far ?_ NB411_413.out _; (with_reducible repeat (first | refine blk_drewN ?_ _ | refine blk_drew ?_ | refine blk_alloc ?_ _)); exact BK411.out) Try.underlying51 rfl (by kernel_rfl)) rfl ?_
  exact ⟨rt, bw HB.out⟩
 ·rw [if_neg c6] at H
  have c6b0 : (t414 == 2) = false := beq_eq_false_iff_ne.mpr c6
  have c6b1 : (t414 != 2) = true := bne_iff_ne.mpr c6
  by_cases c27 : t414 = 3
  ·rw [if_pos c27] at H
   have c27b0 : (t414 == 3) = true := beq_iff_eq.mpr c27
   have c27b1 : (t414 != 3) = false := bne_eq_false_iff_eq.mpr c27
   clear c27
   replace H := Option.bind_eq_some_iff.mp H
   obtain ⟨t416, A280, H⟩ := H
   replace H : ((impl_peek.f l0_0 l1_0 a1_1 (wrap64 (a2 + 2))).bind fun t417 => ((impl_Join.f t416 t417).bind fun t418 => (some (t412, t418)))) = some (r1, r2) := H
   have A28 := Aside0.mk A280
   clear A280
   replace H := Option.bind_eq_some_iff.mp H
   obtain ⟨t417, A290, H⟩ := H
   replace H : ((impl_Join.f t416 t417).bind fun t418 => (some (t412, t418))) = some (r1, r2) := H
   have A29 := Aside0.mk A290
   clear A290
   replace H := Option.bind_eq_some_iff.mp H
   obtain ⟨t418, A300, H⟩ := H
   replace H : (some (t412, t418)) = some (r1, r2) := H
   have A30 := Aside0.mk A300
   clear A300
   simp only [Option.some.injEq, Prod.mk.injEq] at H
   obtain ⟨rfl, rfl⟩ := H
   go_enter Try.func80, Try.ntmps80
   try go_wp2_with (first | ((with_reducible refine gate_dst (N := 3) rfl ?_); refine bx (N := 3) (cs := #[.slice A0_0 l0_0.length c0_0]) (t := 29) ?_; intro gb409 hg w31 hbox hb; have n0_ := Aside0.mk (below_step (bw HB.out) hb); have n1_ := Aside0.mk (hbox); have n2_ := Aside0.mk ((gs hg (bw HB.out))); have n3_ := Aside0.mk ((gs hg (bw HB.out))); clear HB; have HB := n0_; have BK409 := n1_; have GW409 := n2_; have GE409 := n3_; clear n0_ n1_ n2_ n3_; clear hb hbox hg) | ((with_reducible refine gate_dst (N := 4) rfl ?_); refine bx (N := 4) (cs := #[.slice A1_0 l1_0.length c1_0, .int .i64 a1_1]) (t := 32) ?_; intro gb410 hg w32 hbox hb; have n0_ := Aside0.mk (blk_below (g := gb409) (o := .cells #[.slice A0_0 l0_0.length c0_0] 29 (0, 0)) (kb BK409.out) hb); have n1_ := Aside0.mk (below_step (bw HB.out) hb); have n2_ := Aside0.mk (hbox); have n3_ := Aside0.mk ((gs hg (bw HB.out))); have n4_ := Aside0.mk ((gs hg (bw HB.out))); have n5_ := Aside0.mk ((ga hg BK409.out)); have n6_ := Aside0.mk ((gc hg BK409.out)); clear BK409; clear HB; have BK409 := n0_; have HB := n1_; have BK410 := n2_; have GW410 := n3_; have GE410 := n4_; have NB409_410 := n5_; have NB410_409 := n6_; clear n0_ n1_ n2_ n3_ n4_ n5_ n6_; clear hb hbox hg) | ((with_reducible refine gate_dst (N := 6) rfl ?_); refine bx (N := 6) (cs := #[.int .i64 0, .int .i64 0]) (t := 51) ?_; intro gb411 hg w33 hbox hb; have n0_ := Aside0.mk (blk_below (g := gb409) (o := .cells #[.slice A0_0 l0_0.length c0_0] 29 (0, 0)) (kb BK409.out) hb); have n1_ := Aside0.mk (blk_below (g := gb410) (o := .cells #[.slice A1_0 l1_0.length c1_0, .int .i64 a1_1] 32 (0, 0)) (kb BK410.out) hb); have n2_ := Aside0.mk (below_step (bw HB.out) hb); have n3_ := Aside0.mk (hbox); have n4_ := Aside0.mk ((gs hg (bw HB.out))); have n5_ := Aside0.mk ((gs hg (bw HB.out))); have n6_ := Aside0.mk ((ga hg BK409.out)); have n7_ := Aside0.mk ((gc hg BK409.out)); have n8_ := Aside0.mk ((ga hg BK410.out)); have n9_ := Aside0.mk ((gc hg BK410.out)); clear BK409; clear BK410; clear HB; have BK409 := n0_; have BK410 := n1_; have HB := n2_; have BK411 := n3_; have GW411 := n4_; have GE411 := n5_; have NB409_411 := n6_; have NB411_409 := n7_; have NB410_411 := n8_; have NB411_410 := n9_; clear n0_ n1_ n2_ n3_ n4_ n5_ n6_ n7_ n8_ n9_; clear hb hbox hg; have hnb34 := NB409_410.out; have hnc34 := NB410_409.out; have hnb35 := NB409_411.out; have hnc35 := NB411_409.out; have hcz36_0 : w33.cell? ⟨gb409, 0, none⟩ = some (.slice A0_0 l0_0.length c0_0) := cl BK409 0; have hfz36_0 := blk_frozen BK409.out 0; have hnb37 := NB410_411.out; have hnc37 := NB411_410.out; have hcz38_0 : w33.cell? ⟨gb410, 0, none⟩ = some (.slice A1_0 l1_0.length c1_0) := cl BK410 0; have hcz38_1 : w33.cell? ⟨gb410, 1, none⟩ = some (.int .i64 a1_1) := cl BK410 1; have hfz38_0 := blk_frozen BK410.out 0; have hfz38_1 := blk_frozen BK410.out 1) | ((with_reducible refine gate_callee (f := 63) rfl ?_); refine goesM_ (some 11) rfl rfl Try.func63 #[.agg #[.slice A0_0 l0_0.length c0_0], .agg #[.slice A1_0 l1_0.length c1_0, .int .i64 a1_1], .int .i64 a2] ?_; (with_reducible refine (impl_peek.calls _ _ l0_0 _ _ l1_0 a1_1 a2 t412 _ ?side1 ?side2 ?side3 ?side4 A4.out).mono ?_); (case side1 => exact kc (Kd.C_below HR0_0.out HB.out)); (case side2 => exact HC0_0.out); (case side3 => exact kc (Kd.C_below HR1_0.out HB.out)); (case side4 => exact HC1_0.out); rintro e w39 ⟨rfl, hb⟩; refine ⟨_, rfl, ?_⟩; have n0_ := Aside0.mk (blk_below (g := gb409) (o := .cells #[.slice A0_0 l0_0.length c0_0] 29 (0, 0)) (kb BK409.out) hb); have n1_ := Aside0.mk (blk_below (g := gb410) (o := .cells #[.slice A1_0 l1_0.length c1_0, .int .i64 a1_1] 32 (0, 0)) (kb BK410.out) hb); have n2_ := Aside0.mk (blk_below (g := gb411) (o := .cells #[.int .i64 0, .int .i64 0] 51 (0, 0)) (kb BK411.out) hb); have n3_ := Aside0.mk (below_step (bw HB.out) hb); clear BK409; clear BK410; clear BK411; clear HB; have BK409 := n0_; have BK410 := n1_; have BK411 := n2_; have HB := n3_; clear n0_ n1_ n2_ n3_; (try clear hb); (try clear hb2); (try clear hk); (try clear hi)) | ((with_reducible refine gate_dst (N := 7) rfl ?_); refine bx (N := 7) (cs := #[.int .i64 0, .int .i64 0]) (t := 51) ?_; intro gb413 hg w40 hbox hb; have n0_ := Aside0.mk (blk_below (g := gb409) (o := .cells #[.slice A0_0 l0_0.length c0_0] 29 (0, 0)) (kb BK409.out) hb); have n1_ := Aside0.mk (blk_below (g := gb410) (o := .cells #[.slice A1_0 l1_0.length c1_0, .int .i64 a1_1] 32 (0, 0)) (kb BK410.out) hb); have n2_ := Aside0.mk (blk_below (g := gb411) (o := .cells #[.int .i64 0, .int .i64 0] 51 (0, 0)) (kb BK411.out) hb); have n3_ := Aside0.mk (below_step (bw HB.out) hb); have n4_ := Aside0.mk (hbox); have n5_ := Aside0.mk ((gs hg (bw HB.out))); have n6_ := Aside0.mk ((gs hg (bw HB.out))); have n7_ := Aside0.mk ((ga hg BK409.out)); have n8_ := Aside0.mk ((gc hg BK409.out)); have n9_ := Aside0.mk ((ga hg BK410.out)); have n10_ := Aside0.mk ((gc hg BK410.out)); have n11_ := Aside0.mk ((ga hg BK411.out)); have n12_ := Aside0.mk ((gc hg BK411.out)); clear BK409; clear BK410; clear BK411; clear HB; have BK409 := n0_; have BK410 := n1_; have BK411 := n2_; have HB := n3_; have BK413 := n4_; have GW413 := n5_; have GE413 := n6_; have NB409_413 := n7_; have NB413_409 := n8_; have NB410_413 := n9_; have NB413_410 := n10_; have NB411_413 := n11_; have NB413_411 := n12_; clear n0_ n1_ n2_ n3_ n4_ n5_ n6_ n7_ n8_ n9_ n10_ n11_ n12_; clear hb hbox hg; have hnb41 := NB413_409.out; have hnc41 := NB409_413.out; have hnb42 := NB413_410.out; have hnc42 := NB410_413.out; have hnb43 := NB413_411.out; have hnc43 := NB411_413.out; have hcz44_0 : w40.cell? ⟨gb413, 0, none⟩ = some (.int .i64 0) := cl BK413 0; have hcz44_1 : w40.cell? ⟨gb413, 1, none⟩ = some (.int .i64 0) := cl BK413 1; have hfz44_0 := blk_frozen BK413.out 0; have hfz44_1 := blk_frozen BK413.out 1) | ((with_reducible refine gate_callee (f := 38) rfl ?_); refine goesM_ (some 15) rfl rfl Try.func38 #[.int .i64 t412] ?_; (with_reducible refine (impl_OpLen.calls k t412 t414 _ A5.out).mono ?_); rintro e w' ⟨rfl, ⟨nd, rfl⟩⟩; refine ⟨_, rfl, ?_⟩))
   have n0_ : Aside0 (((w40.setCell ⟨gb413, 0, none⟩ (.int .i64 t412)).setCell ⟨gb413, 1, none⟩ (.int .i64 0)).heap[gb409]? = some (.cells #[.slice A0_0 l0_0.length c0_0] 29 (0, 0))) := ⟨kf BK409.out⟩
   have n1_ : Aside0 (((w40.setCell ⟨gb413, 0, none⟩ (.int .i64 t412)).setCell ⟨gb413, 1, none⟩ (.int .i64 0)).heap[gb410]? = some (.cells #[.slice A1_0 l1_0.length c1_0, .int .i64 a1_1] 32 (0, 0))) := ⟨kf BK410.out⟩
   have n2_ : Aside0 (((w40.setCell ⟨gb413, 0, none⟩ (.int .i64 t412)).setCell ⟨gb413, 1, none⟩ (.int .i64 0)).heap[gb411]? = some (.cells #[.int .i64 0, .int .i64 0] 51 (0, 0))) := ⟨kf BK411.out⟩
   have n3_ : Aside0 (((w40.setCell ⟨gb413, 0, none⟩ (.int .i64 t412)).setCell ⟨gb413, 1, none⟩ (.int .i64 0)).heap[gb413]? = some (.cells #[.int .i64 t412, .int .i64 0] 51 (0, 0))) := ⟨by (with_reducible repeat (first | refine blk_drewN ?_ _ | refine blk_drew ?_ | refine blk_alloc ?_ _)); refine blk_put (cs := #[.int .i64 t412, .int .i64 0]) ?_ 1 _ rfl; (with_reducible repeat (first | refine blk_drewN ?_ _ | refine blk_drew ?_ | refine blk_alloc ?_ _)); refine blk_put (cs := #[.int .i64 0, .int .i64 0]) ?_ 0 _ rfl; (with_reducible repeat (first | refine blk_drewN ?_ _ | refine blk_drew ?_ | refine blk_alloc ?_ _)); exact BK413.out⟩
   have n4_ : Aside0 (Below w.heap.size w ((w40.setCell ⟨gb413, 0, none⟩ (.int .i64 t412)).setCell ⟨gb413, 1, none⟩ (.int .i64 0))) := ⟨bw HB.out⟩
   (try clear BK409); (try clear BK410); (try clear BK411); (try clear BK413); (try clear HB)
   generalize ((w40.setCell ⟨gb413, 0, none⟩ (.int .i64 t412)).setCell ⟨gb413, 1, none⟩ (.int .i64 0)) = w45 at n0_ n1_ n2_ n3_ n4_ ⊢
   have BK409 := n0_; have BK410 := n1_; have BK411 := n2_; have BK413 := n3_; have HB := n4_; clear n0_ n1_ n2_ n3_ n4_
   (try (rw [drewN_self w45]; generalize hq_ : World.drewN w45 _ = w45; have n0_ : Aside0 (w45.heap[gb409]? = some (.cells #[.slice A0_0 l0_0.length c0_0] 29 (0, 0))) := ⟨by rw [← hq_]; exact (kb BK409.out)⟩; have n1_ : Aside0 (w45.heap[gb410]? = some (.cells #[.slice A1_0 l1_0.length c1_0, .int .i64 a1_1] 32 (0, 0))) := ⟨by rw [← hq_]; exact (kb BK410.out)⟩; have n2_ : Aside0 (w45.heap[gb411]? = some (.cells #[.int .i64 0, .int .i64 0] 51 (0, 0))) := ⟨by rw [← hq_]; exact (kb BK411.out)⟩; have n3_ : Aside0 (w45.heap[gb413]? = some (.cells #[.int .i64 t412, .int .i64 0] 51 (0, 0))) := ⟨by rw [← hq_]; exact (kb BK413.out)⟩; have n4_ : Aside0 (Below w.heap.size w w45) := ⟨by rw [← hq_]; exact (bw HB.out)⟩; clear BK409 BK410 BK411 BK413 HB hq_; have BK409 := n0_; have BK410 := n1_; have BK411 := n2_; have BK413 := n3_; have HB := n4_; clear n0_ n1_ n2_ n3_ n4_))
   have n0_ := Aside0.mk (blk_drew BK409.out)
   have n1_ := Aside0.mk (blk_drew BK410.out)
   have n2_ := Aside0.mk (blk_drew BK411.out)
   have n3_ := Aside0.mk (blk_drew BK413.out)
   have n4_ := Aside0.mk (below_drew1 HB.out)
   clear BK409; clear BK410; clear BK411; clear BK413; clear HB; have BK409 := n0_; have BK410 := n1_; have BK411 := n2_; have BK413 := n3_; have HB := n4_; clear n0_ n1_ n2_ n3_ n4_
   refine start_ (n := 13) (S := fun w' => w'.cell? ⟨gb409, 0, none⟩ = some (.slice A0_0 l0_0.length c0_0) ∧ w'.cell? ⟨gb410, 0, none⟩ = some (.slice A1_0 l1_0.length c1_0) ∧ w'.cell? ⟨gb410, 1, none⟩ = some (.int .i64 a1_1)) (ds := []) (bm 13 0) (by kernel_rfl) rfl (by kernel_rfl) ⟨cl BK409 0, cl BK410 0, cl BK410 1⟩ (fun hHeld => ?_); refine with_tabW impl_fetch.tab6 impl_fetch.bits6 (fun HT_ HW_ => ?_)
   generalize w45.drew = w46 at BK409 BK410 BK411 BK413 HB hHeld ⊢
   refine pw_ 2 (some 28) (bm 13 4) HT_ ?_
   refine pw_ 3 (some 29) (bm 13 12) HT_ ?_
   refine pw_ 7 (some 33) (bm 13 140) HT_ ?_
   refine pw_ 8 (some 34) (bm 13 396) HT_ ?_
   refine tw_ 0 (some 26) (bm 13 397) HT_ HW_ hHeld ?_
   refine tw_ 1 (some 27) (bm 13 399) HT_ HW_ hHeld ?_
   refine tw_ 5 (some 31) (bm 13 431) HT_ HW_ hHeld ?_
   refine tw_ 6 (some 32) (bm 13 495) HT_ HW_ hHeld ?_
   refine ow_ 4 (some 30) (bm 13 511) HT_ (fun K hK => ?_)
   refine gw_ Try.func63 #[.agg #[.slice A0_0 l0_0.length c0_0], .agg #[.slice A1_0 l1_0.length c1_0, .int .i64 a1_1], .int .i64 (wrap64 (a2 + 1))] ?_
   with_reducible refine (impl_peek.calls _ _ l0_0 _ _ l1_0 a1_1 (wrap64 (a2 + 1)) t416 _ ?side1 ?side2 ?side3 ?side4 A28.out).mono ?_
   (case side1 => exact kc (Kd.C_below HR0_0.out HB.out))
   (case side2 => exact HC0_0.out)
   (case side3 => exact kc (Kd.C_below HR1_0.out HB.out))
   (case side4 => exact HC1_0.out)
   rintro e w47 ⟨rfl, hb⟩
   refine ⟨_, rfl, ?_⟩
   have n0_ := Aside0.mk (blk_below (g := gb409) (o := .cells #[.slice A0_0 l0_0.length c0_0] 29 (0, 0)) (kb BK409.out) hb)
   have n1_ := Aside0.mk (blk_below (g := gb410) (o := .cells #[.slice A1_0 l1_0.length c1_0, .int .i64 a1_1] 32 (0, 0)) (kb BK410.out) hb)
   have n2_ := Aside0.mk (blk_below (g := gb411) (o := .cells #[.int .i64 0, .int .i64 0] 51 (0, 0)) (kb BK411.out) hb)
   have n3_ := Aside0.mk (blk_below (g := gb413) (o := .cells #[.int .i64 t412, .int .i64 0] 51 (0, 0)) (kb BK413.out) hb)
   have n4_ := Aside0.mk (below_step (bw HB.out) hb)
   clear BK409; clear BK410; clear BK411; clear BK413; clear HB; have BK409 := n0_; have BK410 := n1_; have BK411 := n2_; have BK413 := n3_; have HB := n4_; clear n0_ n1_ n2_ n3_ n4_; (try clear hb); (try clear hb2); (try clear hk); (try clear hi)
   refine hK.out _ _ ⟨cl BK409 0, cl BK410 0, cl BK410 1⟩ (fun hHeld => ?_)
   clear hK K
   refine nw_ ?_
   refine ow_ 9 (some 35) (bm 13 1023) HT_ (fun K hK => ?_)
   refine gw_ Try.func63 #[.agg #[.slice A0_0 l0_0.length c0_0], .agg #[.slice A1_0 l1_0.length c1_0, .int .i64 a1_1], .int .i64 (wrap64 (a2 + 2))] ?_
   with_reducible refine (impl_peek.calls _ _ l0_0 _ _ l1_0 a1_1 (wrap64 (a2 + 2)) t417 _ ?side1 ?side2 ?side3 ?side4 A29.out).mono ?_
   (case side1 => exact kc (Kd.C_below HR0_0.out HB.out))
   (case side2 => exact HC0_0.out)
   (case side3 => exact kc (Kd.C_below HR1_0.out HB.out))
   (case side4 => exact HC1_0.out)
   rintro e w48 ⟨rfl, hb⟩
   refine ⟨_, rfl, ?_⟩
   have n0_ := Aside0.mk (blk_below (g := gb409) (o := .cells #[.slice A0_0 l0_0.length c0_0] 29 (0, 0)) (kb BK409.out) hb)
   have n1_ := Aside0.mk (blk_below (g := gb410) (o := .cells #[.slice A1_0 l1_0.length c1_0, .int .i64 a1_1] 32 (0, 0)) (kb BK410.out) hb)
   have n2_ := Aside0.mk (blk_below (g := gb411) (o := .cells #[.int .i64 0, .int .i64 0] 51 (0, 0)) (kb BK411.out) hb)
   have n3_ := Aside0.mk (blk_below (g := gb413) (o := .cells #[.int .i64 t412, .int .i64 0] 51 (0, 0)) (kb BK413.out) hb)
   have n4_ := Aside0.mk (below_step (bw HB.out) hb)
   clear BK409; clear BK410; clear BK411; clear BK413; clear HB; have BK409 := n0_; have BK410 := n1_; have BK411 := n2_; have BK413 := n3_; have HB := n4_; clear n0_ n1_ n2_ n3_ n4_; (try clear hb); (try clear hb2); (try clear hk); (try clear hi)
   refine hK.out _ _ ⟨cl BK409 0, cl BK410 0, cl BK410 1⟩ (fun hHeld => ?_)
   clear hK K
   refine nw_ ?_
   refine ow_ 10 (some 36) (bm 13 2047) HT_ (fun K hK => ?_)
   refine gw_ Try.func39 #[.int .i64 t416, .int .i64 t417] ?_
   with_reducible refine (impl_Join.calls t416 t417 t418 _ A30.out).mono ?_
   rintro e w' ⟨rfl, ⟨nd, rfl⟩⟩
   refine ⟨_, rfl, ?_⟩
   have n0_ := Aside0.mk (blk_drewN BK409.out nd)
   have n1_ := Aside0.mk (blk_drewN BK410.out nd)
   have n2_ := Aside0.mk (blk_drewN BK411.out nd)
   have n3_ := Aside0.mk (blk_drewN BK413.out nd)
   have n4_ := Aside0.mk (pw_below_drewN HB.out nd)
   clear BK409; clear BK410; clear BK411; clear BK413; clear HB; have BK409 := n0_; have BK410 := n1_; have BK411 := n2_; have BK413 := n3_; have HB := n4_; clear n0_ n1_ n2_ n3_ n4_
   generalize w48.drewN nd = w48 at BK409 BK410 BK411 BK413 HB ⊢
   refine hK.out _ _ ⟨cl BK409 0, cl BK410 0, cl BK410 1⟩ (fun hHeld => ?_)
   clear hK K
   refine nw_ ?_
   refine pw_ 11 (some 37) (bm 13 4095) HT_ ?_
   refine ow_ 12 none (bm 13 8191) HT_ (fun K hK => ?_)
   have hs49 : w48.cell? ⟨gb413, 1, none⟩ = some (.int .i64 0) := cl BK413 1
   have hfs49 := blk_frozen BK413.out 1
   have hns49_0 := NB409_413.out
   have hns49_1 := NB410_413.out
   have hns49_2 := NB411_413.out
   have hms49_0 := NB413_409.out
   have hms49_1 := NB413_410.out
   have hms49_2 := NB413_411.out
   refine skip_ (w1 := ?_) (by rfl) rfl ?_ ?_
   rotate_left
   ·go_simp
    rfl
   refine hK.out _ _ ⟨((cell_far (p := ⟨gb413, _, none⟩) NB409_413.out _).trans (hHeld.1)), ((cell_far (p := ⟨gb413, _, none⟩) NB410_413.out _).trans (hHeld.2.1)), ((cell_far (p := ⟨gb413, _, none⟩) NB410_413.out _).trans (hHeld.2.2))⟩ (fun hHeld => ?_)
   clear hK K
   refine done_ (done_of HT_.out (by kernel_rfl)) ?_
   have hcz50_0 : w48.cell? ⟨gb413, 0, none⟩ = some (.int .i64 t412) := cl BK413 0
   have hcz50_1 : w48.cell? ⟨gb413, 1, none⟩ = some (.int .i64 0) := cl BK413 1
   have hfz50_0 := blk_frozen BK413.out 0
   have hfz50_1 := blk_frozen BK413.out 1
   have hcz51_0 : w48.cell? ⟨gb411, 0, none⟩ = some (.int .i64 0) := cl BK411 0
   have hcz51_1 : w48.cell? ⟨gb411, 1, none⟩ = some (.int .i64 0) := cl BK411 1
   have hfz51_0 := blk_frozen BK411.out 0
   have hfz51_1 := blk_frozen BK411.out 1
   try go_wp2
   refine bodyPost_ret (results_cell_row rfl _ _ gb411 51 #[.int .i64 t412, .int .i64 t418] (0, 0) _ rfl (by (with_reducible repeat (first | refine blk_drewN ?_ _ | refine blk_drew ?_ | refine blk_alloc ?_ _)); refine blk_put (cs := #[.int .i64 t412, .int .i64 0]) ?_ 1 _ rfl; (with_reducible repeat (first | refine blk_drewN ?_ _ | refine blk_drew ?_ | refine blk_alloc ?_ _)); refine blk_put (cs := #[.int .i64 0, .int .i64 0]) ?_ 0 _ rfl; (with_reducible repeat (first | refine blk_drewN ?_ _ | refine blk_drew ?_ | refine blk_alloc ?_ _)); refine blk_far ?_ NB411_413.out _; (with_reducible repeat (first | refine blk_drewN ?_ _ | refine blk_drew ?_ | refine blk_alloc ?_ _)); exact BK411.out) Try.underlying51 rfl (by kernel_rfl)) rfl ?_
   exact ⟨rt, bw HB.out⟩
  ·rw [if_neg c27] at H
   have c27b0 : (t414 == 3) = false := beq_eq_false_iff_ne.mpr c27
   have c27b1 : (t414 != 3) = true := bne_iff_ne.mpr c27
   simp only [Option.some.injEq, Prod.mk.injEq] at H
   obtain ⟨rfl, rfl⟩ := H
   go_enter Try.func80, Try.ntmps80
   go_wp2_with (first | ((with_reducible refine gate_dst (N := 3) rfl ?_); refine bx (N := 3) (cs := #[.slice A0_0 l0_0.length c0_0]) (t := 29) ?_; intro gb409 hg w52 hbox hb; have n0_ := Aside0.mk (below_step (bw HB.out) hb); have n1_ := Aside0.mk (hbox); have n2_ := Aside0.mk ((gs hg (bw HB.out))); have n3_ := Aside0.mk ((gs hg (bw HB.out))); clear HB; have HB := n0_; have BK409 := n1_; have GW409 := n2_; have GE409 := n3_; clear n0_ n1_ n2_ n3_; clear hb hbox hg) | ((with_reducible refine gate_dst (N := 4) rfl ?_); refine bx (N := 4) (cs := #[.slice A1_0 l1_0.length c1_0, .int .i64 a1_1]) (t := 32) ?_; intro gb410 hg w53 hbox hb; have n0_ := Aside0.mk (blk_below (g := gb409) (o := .cells #[.slice A0_0 l0_0.length c0_0] 29 (0, 0)) (kb BK409.out) hb); have n1_ := Aside0.mk (below_step (bw HB.out) hb); have n2_ := Aside0.mk (hbox); have n3_ := Aside0.mk ((gs hg (bw HB.out))); have n4_ := Aside0.mk ((gs hg (bw HB.out))); have n5_ := Aside0.mk ((ga hg BK409.out)); have n6_ := Aside0.mk ((gc hg BK409.out)); clear BK409; clear HB; have BK409 := n0_; have HB := n1_; have BK410 := n2_; have GW410 := n3_; have GE410 := n4_; have NB409_410 := n5_; have NB410_409 := n6_; clear n0_ n1_ n2_ n3_ n4_ n5_ n6_; clear hb hbox hg) | ((with_reducible refine gate_dst (N := 6) rfl ?_); refine bx (N := 6) (cs := #[.int .i64 0, .int .i64 0]) (t := 51) ?_; intro gb411 hg w54 hbox hb; have n0_ := Aside0.mk (blk_below (g := gb409) (o := .cells #[.slice A0_0 l0_0.length c0_0] 29 (0, 0)) (kb BK409.out) hb); have n1_ := Aside0.mk (blk_below (g := gb410) (o := .cells #[.slice A1_0 l1_0.length c1_0, .int .i64 a1_1] 32 (0, 0)) (kb BK410.out) hb); have n2_ := Aside0.mk (below_step (bw HB.out) hb); have n3_ := Aside0.mk (hbox); have n4_ := Aside0.mk ((gs hg (bw HB.out))); have n5_ := Aside0.mk ((gs hg (bw HB.out))); have n6_ := Aside0.mk ((ga hg BK409.out)); have n7_ := Aside0.mk ((gc hg BK409.out)); have n8_ := Aside0.mk ((ga hg BK410.out)); have n9_ := Aside0.mk ((gc hg BK410.out)); clear BK409; clear BK410; clear HB; have BK409 := n0_; have BK410 := n1_; have HB := n2_; have BK411 := n3_; have GW411 := n4_; have GE411 := n5_; have NB409_411 := n6_; have NB411_409 := n7_; have NB410_411 := n8_; have NB411_410 := n9_; clear n0_ n1_ n2_ n3_ n4_ n5_ n6_ n7_ n8_ n9_; clear hb hbox hg; have hnb55 := NB409_410.out; have hnc55 := NB410_409.out; have hnb56 := NB409_411.out; have hnc56 := NB411_409.out; have hcz57_0 : w54.cell? ⟨gb409, 0, none⟩ = some (.slice A0_0 l0_0.length c0_0) := cl BK409 0; have hfz57_0 := blk_frozen BK409.out 0; have hnb58 := NB410_411.out; have hnc58 := NB411_410.out; have hcz59_0 : w54.cell? ⟨gb410, 0, none⟩ = some (.slice A1_0 l1_0.length c1_0) := cl BK410 0; have hcz59_1 : w54.cell? ⟨gb410, 1, none⟩ = some (.int .i64 a1_1) := cl BK410 1; have hfz59_0 := blk_frozen BK410.out 0; have hfz59_1 := blk_frozen BK410.out 1) | ((with_reducible refine gate_callee (f := 63) rfl ?_); refine goesM_ (some 11) rfl rfl Try.func63 #[.agg #[.slice A0_0 l0_0.length c0_0], .agg #[.slice A1_0 l1_0.length c1_0, .int .i64 a1_1], .int .i64 a2] ?_; (with_reducible refine (impl_peek.calls _ _ l0_0 _ _ l1_0 a1_1 a2 t412 _ ?side1 ?side2 ?side3 ?side4 A4.out).mono ?_); (case side1 => exact kc (Kd.C_below HR0_0.out HB.out)); (case side2 => exact HC0_0.out); (case side3 => exact kc (Kd.C_below HR1_0.out HB.out)); (case side4 => exact HC1_0.out); rintro e w60 ⟨rfl, hb⟩; refine ⟨_, rfl, ?_⟩; have n0_ := Aside0.mk (blk_below (g := gb409) (o := .cells #[.slice A0_0 l0_0.length c0_0] 29 (0, 0)) (kb BK409.out) hb); have n1_ := Aside0.mk (blk_below (g := gb410) (o := .cells #[.slice A1_0 l1_0.length c1_0, .int .i64 a1_1] 32 (0, 0)) (kb BK410.out) hb); have n2_ := Aside0.mk (blk_below (g := gb411) (o := .cells #[.int .i64 0, .int .i64 0] 51 (0, 0)) (kb BK411.out) hb); have n3_ := Aside0.mk (below_step (bw HB.out) hb); clear BK409; clear BK410; clear BK411; clear HB; have BK409 := n0_; have BK410 := n1_; have BK411 := n2_; have HB := n3_; clear n0_ n1_ n2_ n3_; (try clear hb); (try clear hb2); (try clear hk); (try clear hi)) | ((with_reducible refine gate_dst (N := 7) rfl ?_); refine bx (N := 7) (cs := #[.int .i64 0, .int .i64 0]) (t := 51) ?_; intro gb413 hg w61 hbox hb; have n0_ := Aside0.mk (blk_below (g := gb409) (o := .cells #[.slice A0_0 l0_0.length c0_0] 29 (0, 0)) (kb BK409.out) hb); have n1_ := Aside0.mk (blk_below (g := gb410) (o := .cells #[.slice A1_0 l1_0.length c1_0, .int .i64 a1_1] 32 (0, 0)) (kb BK410.out) hb); have n2_ := Aside0.mk (blk_below (g := gb411) (o := .cells #[.int .i64 0, .int .i64 0] 51 (0, 0)) (kb BK411.out) hb); have n3_ := Aside0.mk (below_step (bw HB.out) hb); have n4_ := Aside0.mk (hbox); have n5_ := Aside0.mk ((gs hg (bw HB.out))); have n6_ := Aside0.mk ((gs hg (bw HB.out))); have n7_ := Aside0.mk ((ga hg BK409.out)); have n8_ := Aside0.mk ((gc hg BK409.out)); have n9_ := Aside0.mk ((ga hg BK410.out)); have n10_ := Aside0.mk ((gc hg BK410.out)); have n11_ := Aside0.mk ((ga hg BK411.out)); have n12_ := Aside0.mk ((gc hg BK411.out)); clear BK409; clear BK410; clear BK411; clear HB; have BK409 := n0_; have BK410 := n1_; have BK411 := n2_; have HB := n3_; have BK413 := n4_; have GW413 := n5_; have GE413 := n6_; have NB409_413 := n7_; have NB413_409 := n8_; have NB410_413 := n9_; have NB413_410 := n10_; have NB411_413 := n11_; have NB413_411 := n12_; clear n0_ n1_ n2_ n3_ n4_ n5_ n6_ n7_ n8_ n9_ n10_ n11_ n12_; clear hb hbox hg; have hnb62 := NB413_409.out; have hnc62 := NB409_413.out; have hnb63 := NB413_410.out; have hnc63 := NB410_413.out; have hnb64 := NB413_411.out; have hnc64 := NB411_413.out; have hcz65_0 : w61.cell? ⟨gb413, 0, none⟩ = some (.int .i64 0) := cl BK413 0; have hcz65_1 : w61.cell? ⟨gb413, 1, none⟩ = some (.int .i64 0) := cl BK413 1; have hfz65_0 := blk_frozen BK413.out 0; have hfz65_1 := blk_frozen BK413.out 1) | ((with_reducible refine gate_callee (f := 38) rfl ?_); refine goesM_ (some 15) rfl rfl Try.func38 #[.int .i64 t412] ?_; (with_reducible refine (impl_OpLen.calls k t412 t414 _ A5.out).mono ?_); rintro e w' ⟨rfl, ⟨nd, rfl⟩⟩; refine ⟨_, rfl, ?_⟩; have hcz66_0 : w61.cell? ⟨gb411, 0, none⟩ = some (.int .i64 0) := cl BK411 0; have hcz66_1 : w61.cell? ⟨gb411, 1, none⟩ = some (.int .i64 0) := cl BK411 1; have hfz66_0 := blk_frozen BK411.out 0; have hfz66_1 := blk_frozen BK411.out 1))
   refine bodyPost_ret (results_cell_row rfl _ _ gb411 51 #[.int .i64 t412, .int .i64 0] (0, 0) _ rfl (by (with_reducible repeat (first | refine blk_drewN ?_ _ | refine blk_drew ?_ | refine blk_alloc ?_ _)); refine blk_put (cs := #[.int .i64 t412, .int .i64 0]) ?_ 1 _ rfl; (with_reducible repeat (first | refine blk_drewN ?_ _ | refine blk_drew ?_ | refine blk_alloc ?_ _)); refine blk_put (cs := #[.int .i64 0, .int .i64 0]) ?_ 0 _ rfl; (with_reducible repeat (first | refine blk_drewN ?_ _ | refine blk_drew ?_ | refine blk_alloc ?_ _)); refine blk_far ?_ NB411_413.out _; (with_reducible repeat (first | refine blk_drewN ?_ _ | refine blk_drew ?_ | refine blk_alloc ?_ _)); refine blk_far ?_ NB411_413.out _; (with_reducible repeat (first | refine blk_drewN ?_ _ | refine blk_drew ?_ | refine blk_alloc ?_ _)); exact BK411.out) Try.underlying51 rfl (by kernel_rfl)) rfl ?_
   exact ⟨rt, bw HB.out⟩

/-! ### impl_Fetch: function 36 -/
def impl_Fetch.f (k : Nat) (l0_0 : List (List Int)) (l1_0 : List Int) (a1_1 : Int) (a2 : Int) : Option (Int × Int) := (impl_MemOk.f k l0_0 l1_0 a1_1).bind fun t422 => (if t422 = true then ((impl_fetch.f k l0_0 l1_0 a1_1 a2).bind fun bt423 => (some (bt423.1, bt423.2))) else (some (0, 0)))
set_option maxHeartbeats 8000000 in
set_option maxRecDepth 100000 in
theorem impl_Fetch.calls (k : Nat) (A0_0 : Option Addr) (c0_0 : Nat) (l0_0 : List (List Int)) (A1_0 : Option Addr) (c1_0 : Nat) (l1_0 : List Int) (a1_1 : Int) (a2 : Int) (r1 : Int) (r2 : Int) (w : World) (hr0_0 : Kd.C (Kd.slice 3 (Kd.int .i64)) w A0_0 l0_0.length l0_0) (hc0_0 : l0_0.length ≤ c0_0) (hr1_0 : Kd.C (Kd.int .i64) w A1_0 l1_0.length l1_0) (hc1_0 : l1_0.length ≤ c1_0) (h : impl_Fetch.f k l0_0 l1_0 a1_1 a2 = some (r1, r2)) :
  Calls Try.prog 36 #[.agg #[.slice A0_0 l0_0.length c0_0], .agg #[.slice A1_0 l1_0.length c1_0, .int .i64 a1_1], .int .i64 a2] w fun e w' => e = .returned (.agg #[.int .i64 r1, .int .i64 r2]) ∧ Below w.heap.size w w' := by
 have hu29 := Try.underlying29
 have hu32 := Try.underlying32
 have hu51 := Try.underlying51
 have HR0_0 := Aside0.mk hr0_0
 have HC0_0 := Aside0.mk hc0_0
 clear hr0_0 hc0_0
 have HR1_0 := Aside0.mk hr1_0
 have HC1_0 := Aside0.mk hc1_0
 clear hr1_0 hc1_0
 have HB := Aside0.mk (Below.refl w.heap.size w)
 have H : ((impl_MemOk.f k l0_0 l1_0 a1_1).bind fun t422 => (if t422 = true then ((impl_fetch.f k l0_0 l1_0 a1_1 a2).bind fun bt423 => (some (bt423.1, bt423.2))) else (some (0, 0)))) = some (r1, r2) := h
 clear h
 replace H := Option.bind_eq_some_iff.mp H
 obtain ⟨t422, A40, H⟩ := H
 replace H : (if t422 = true then ((impl_fetch.f k l0_0 l1_0 a1_1 a2).bind fun bt423 => (some (bt423.1, bt423.2))) else (some (0, 0))) = some (r1, r2) := H
 have A4 := Aside0.mk A40
 clear A40
 by_cases c5 : t422 = true
 ·subst c5
  have H1 : ((impl_fetch.f k l0_0 l1_0 a1_1 a2).bind fun bt423 => (some (bt423.1, bt423.2))) = some (r1, r2) := by rw [if_pos rfl] at H; exact H
  clear H
  have H := H1
  clear H1
  replace H := Option.bind_eq_some_iff.mp H
  obtain ⟨⟨t423, t424⟩, A60, H⟩ := H
  replace H : (some (t423, t424)) = some (r1, r2) := H
  have A6 := Aside0.mk A60
  clear A60
  simp only [Option.some.injEq, Prod.mk.injEq] at H
  obtain ⟨rfl, rfl⟩ := H
  go_enter Try.func36, Try.ntmps36
  go_wp2_with (first | ((with_reducible refine gate_dst (N := 3) rfl ?_); refine bx (N := 3) (cs := #[.slice A0_0 l0_0.length c0_0]) (t := 29) ?_; intro gb419 hg w7 hbox hb; have n0_ := Aside0.mk (below_step (bw HB.out) hb); have n1_ := Aside0.mk (hbox); have n2_ := Aside0.mk ((gs hg (bw HB.out))); have n3_ := Aside0.mk ((gs hg (bw HB.out))); clear HB; have HB := n0_; have BK419 := n1_; have GW419 := n2_; have GE419 := n3_; clear n0_ n1_ n2_ n3_; clear hb hbox hg) | ((with_reducible refine gate_dst (N := 4) rfl ?_); refine bx (N := 4) (cs := #[.slice A1_0 l1_0.length c1_0, .int .i64 a1_1]) (t := 32) ?_; intro gb420 hg w8 hbox hb; have n0_ := Aside0.mk (blk_below (g := gb419) (o := .cells #[.slice A0_0 l0_0.length c0_0] 29 (0, 0)) (kb BK419.out) hb); have n1_ := Aside0.mk (below_step (bw HB.out) hb); have n2_ := Aside0.mk (hbox); have n3_ := Aside0.mk ((gs hg (bw HB.out))); have n4_ := Aside0.mk ((gs hg (bw HB.out))); have n5_ := Aside0.mk ((ga hg BK419.out)); have n6_ := Aside0.mk ((gc hg BK419.out)); clear BK419; clear HB; have BK419 := n0_; have HB := n1_; have BK420 := n2_; have GW420 := n3_; have GE420 := n4_; have NB419_420 := n5_; have NB420_419 := n6_; clear n0_ n1_ n2_ n3_ n4_ n5_ n6_; clear hb hbox hg) | ((with_reducible refine gate_dst (N := 6) rfl ?_); refine bx (N := 6) (cs := #[.int .i64 0, .int .i64 0]) (t := 51) ?_; intro gb421 hg w9 hbox hb; have n0_ := Aside0.mk (blk_below (g := gb419) (o := .cells #[.slice A0_0 l0_0.length c0_0] 29 (0, 0)) (kb BK419.out) hb); have n1_ := Aside0.mk (blk_below (g := gb420) (o := .cells #[.slice A1_0 l1_0.length c1_0, .int .i64 a1_1] 32 (0, 0)) (kb BK420.out) hb); have n2_ := Aside0.mk (below_step (bw HB.out) hb); have n3_ := Aside0.mk (hbox); have n4_ := Aside0.mk ((gs hg (bw HB.out))); have n5_ := Aside0.mk ((gs hg (bw HB.out))); have n6_ := Aside0.mk ((ga hg BK419.out)); have n7_ := Aside0.mk ((gc hg BK419.out)); have n8_ := Aside0.mk ((ga hg BK420.out)); have n9_ := Aside0.mk ((gc hg BK420.out)); clear BK419; clear BK420; clear HB; have BK419 := n0_; have BK420 := n1_; have HB := n2_; have BK421 := n3_; have GW421 := n4_; have GE421 := n5_; have NB419_421 := n6_; have NB421_419 := n7_; have NB420_421 := n8_; have NB421_420 := n9_; clear n0_ n1_ n2_ n3_ n4_ n5_ n6_ n7_ n8_ n9_; clear hb hbox hg; have hnb10 := NB419_420.out; have hnc10 := NB420_419.out; have hnb11 := NB419_421.out; have hnc11 := NB421_419.out; have hcz12_0 : w9.cell? ⟨gb419, 0, none⟩ = some (.slice A0_0 l0_0.length c0_0) := cl BK419 0; have hfz12_0 := blk_frozen BK419.out 0; have hnb13 := NB420_421.out; have hnc13 := NB421_420.out; have hcz14_0 : w9.cell? ⟨gb420, 0, none⟩ = some (.slice A1_0 l1_0.length c1_0) := cl BK420 0; have hcz14_1 : w9.cell? ⟨gb420, 1, none⟩ = some (.int .i64 a1_1) := cl BK420 1; have hfz14_0 := blk_frozen BK420.out 0; have hfz14_1 := blk_frozen BK420.out 1) | ((with_reducible refine gate_callee (f := 32) rfl ?_); refine goesM_ (some 9) rfl rfl Try.func32 #[.agg #[.slice A0_0 l0_0.length c0_0], .agg #[.slice A1_0 l1_0.length c1_0, .int .i64 a1_1]] ?_; (with_reducible refine (impl_MemOk.calls k _ _ l0_0 _ _ l1_0 a1_1 true _ ?side1 ?side2 ?side3 ?side4 A4.out).mono ?_); (case side1 => exact kc (Kd.C_below HR0_0.out HB.out)); (case side2 => exact HC0_0.out); (case side3 => exact kc (Kd.C_below HR1_0.out HB.out)); (case side4 => exact HC1_0.out); rintro e w15 ⟨rfl, hb⟩; refine ⟨_, rfl, ?_⟩; have n0_ := Aside0.mk (blk_below (g := gb419) (o := .cells #[.slice A0_0 l0_0.length c0_0] 29 (0, 0)) (kb BK419.out) hb); have n1_ := Aside0.mk (blk_below (g := gb420) (o := .cells #[.slice A1_0 l1_0.length c1_0, .int .i64 a1_1] 32 (0, 0)) (kb BK420.out) hb); have n2_ := Aside0.mk (blk_below (g := gb421) (o := .cells #[.int .i64 0, .int .i64 0] 51 (0, 0)) (kb BK421.out) hb); have n3_ := Aside0.mk (below_step (bw HB.out) hb); clear BK419; clear BK420; clear BK421; clear HB; have BK419 := n0_; have BK420 := n1_; have BK421 := n2_; have HB := n3_; clear n0_ n1_ n2_ n3_; (try clear hb); (try clear hb2); (try clear hk); (try clear hi); have hcz16_0 : w15.cell? ⟨gb419, 0, none⟩ = some (.slice A0_0 l0_0.length c0_0) := cl BK419 0; have hfz16_0 := blk_frozen BK419.out 0; have hcz17_0 : w15.cell? ⟨gb420, 0, none⟩ = some (.slice A1_0 l1_0.length c1_0) := cl BK420 0; have hcz17_1 : w15.cell? ⟨gb420, 1, none⟩ = some (.int .i64 a1_1) := cl BK420 1; have hfz17_0 := blk_frozen BK420.out 0; have hfz17_1 := blk_frozen BK420.out 1) | ((with_reducible refine gate_callee (f := 80) rfl ?_); refine goesM_ (some 15) rfl rfl Try.func80 #[.agg #[.slice A0_0 l0_0.length c0_0], .agg #[.slice A1_0 l1_0.length c1_0, .int .i64 a1_1], .int .i64 a2] ?_; (with_reducible refine (impl_fetch.calls k _ _ l0_0 _ _ l1_0 a1_1 a2 t423 t424 _ ?side1 ?side2 ?side3 ?side4 A6.out).mono ?_); (case side1 => exact kc (Kd.C_below HR0_0.out HB.out)); (case side2 => exact HC0_0.out); (case side3 => exact kc (Kd.C_below HR1_0.out HB.out)); (case side4 => exact HC1_0.out); rintro e w18 ⟨rfl, hb⟩; refine ⟨_, rfl, ?_⟩; have n0_ := Aside0.mk (blk_below (g := gb419) (o := .cells #[.slice A0_0 l0_0.length c0_0] 29 (0, 0)) (kb BK419.out) hb); have n1_ := Aside0.mk (blk_below (g := gb420) (o := .cells #[.slice A1_0 l1_0.length c1_0, .int .i64 a1_1] 32 (0, 0)) (kb BK420.out) hb); have n2_ := Aside0.mk (blk_below (g := gb421) (o := .cells #[.int .i64 0, .int .i64 0] 51 (0, 0)) (kb BK421.out) hb); have n3_ := Aside0.mk (below_step (bw HB.out) hb); clear BK419; clear BK420; clear BK421; clear HB; have BK419 := n0_; have BK420 := n1_; have BK421 := n2_; have HB := n3_; clear n0_ n1_ n2_ n3_; (try clear hb); (try clear hb2); (try clear hk); (try clear hi); have hcz19_0 : w18.cell? ⟨gb421, 0, none⟩ = some (.int .i64 0) := cl BK421 0; have hcz19_1 : w18.cell? ⟨gb421, 1, none⟩ = some (.int .i64 0) := cl BK421 1; have hfz19_0 := blk_frozen BK421.out 0; have hfz19_1 := blk_frozen BK421.out 1))
  refine bodyPost_ret (results_cell_row rfl _ _ gb421 51 #[.int .i64 t423, .int .i64 t424] (0, 0) _ rfl (by (with_reducible repeat (first | refine blk_drewN ?_ _ | refine blk_drew ?_ | refine blk_alloc ?_ _)); refine blk_put (cs := #[.int .i64 t423, .int .i64 0]) ?_ 1 _ rfl; (with_reducible repeat (first | refine blk_drewN ?_ _ | refine blk_drew ?_ | refine blk_alloc ?_ _)); refine blk_put (cs := #[.int .i64 0, .int .i64 0]) ?_ 0 _ rfl; (with_reducible repeat (first | refine blk_drewN ?_ _ | refine blk_drew ?_ | refine blk_alloc ?_ _)); exact BK421.out) Try.underlying51 rfl (by kernel_rfl)) rfl ?_
  exact ⟨rt, bw HB.out⟩
 ·replace c5 := Bool.eq_false_iff.mpr c5
  subst c5
  have H1 : (some (0, 0)) = some (r1, r2) := by rw [if_neg (show ¬ (false = true) by decide)] at H; exact H
  clear H
  have H := H1
  clear H1
  simp only [Option.some.injEq, Prod.mk.injEq] at H
  obtain ⟨rfl, rfl⟩ := H
  go_enter Try.func36, Try.ntmps36
  go_wp2_with (first | ((with_reducible refine gate_dst (N := 3) rfl ?_); refine bx (N := 3) (cs := #[.slice A0_0 l0_0.length c0_0]) (t := 29) ?_; intro gb419 hg w20 hbox hb; have n0_ := Aside0.mk (below_step (bw HB.out) hb); have n1_ := Aside0.mk (hbox); have n2_ := Aside0.mk ((gs hg (bw HB.out))); have n3_ := Aside0.mk ((gs hg (bw HB.out))); clear HB; have HB := n0_; have BK419 := n1_; have GW419 := n2_; have GE419 := n3_; clear n0_ n1_ n2_ n3_; clear hb hbox hg) | ((with_reducible refine gate_dst (N := 4) rfl ?_); refine bx (N := 4) (cs := #[.slice A1_0 l1_0.length c1_0, .int .i64 a1_1]) (t := 32) ?_; intro gb420 hg w21 hbox hb; have n0_ := Aside0.mk (blk_below (g := gb419) (o := .cells #[.slice A0_0 l0_0.length c0_0] 29 (0, 0)) (kb BK419.out) hb); have n1_ := Aside0.mk (below_step (bw HB.out) hb); have n2_ := Aside0.mk (hbox); have n3_ := Aside0.mk ((gs hg (bw HB.out))); have n4_ := Aside0.mk ((gs hg (bw HB.out))); have n5_ := Aside0.mk ((ga hg BK419.out)); have n6_ := Aside0.mk ((gc hg BK419.out)); clear BK419; clear HB; have BK419 := n0_; have HB := n1_; have BK420 := n2_; have GW420 := n3_; have GE420 := n4_; have NB419_420 := n5_; have NB420_419 := n6_; clear n0_ n1_ n2_ n3_ n4_ n5_ n6_; clear hb hbox hg) | ((with_reducible refine gate_dst (N := 6) rfl ?_); refine bx (N := 6) (cs := #[.int .i64 0, .int .i64 0]) (t := 51) ?_; intro gb421 hg w22 hbox hb; have n0_ := Aside0.mk (blk_below (g := gb419) (o := .cells #[.slice A0_0 l0_0.length c0_0] 29 (0, 0)) (kb BK419.out) hb); have n1_ := Aside0.mk (blk_below (g := gb420) (o := .cells #[.slice A1_0 l1_0.length c1_0, .int .i64 a1_1] 32 (0, 0)) (kb BK420.out) hb); have n2_ := Aside0.mk (below_step (bw HB.out) hb); have n3_ := Aside0.mk (hbox); have n4_ := Aside0.mk ((gs hg (bw HB.out))); have n5_ := Aside0.mk ((gs hg (bw HB.out))); have n6_ := Aside0.mk ((ga hg BK419.out)); have n7_ := Aside0.mk ((gc hg BK419.out)); have n8_ := Aside0.mk ((ga hg BK420.out)); have n9_ := Aside0.mk ((gc hg BK420.out)); clear BK419; clear BK420; clear HB; have BK419 := n0_; have BK420 := n1_; have HB := n2_; have BK421 := n3_; have GW421 := n4_; have GE421 := n5_; have NB419_421 := n6_; have NB421_419 := n7_; have NB420_421 := n8_; have NB421_420 := n9_; clear n0_ n1_ n2_ n3_ n4_ n5_ n6_ n7_ n8_ n9_; clear hb hbox hg; have hnb23 := NB419_420.out; have hnc23 := NB420_419.out; have hnb24 := NB419_421.out; have hnc24 := NB421_419.out; have hcz25_0 : w22.cell? ⟨gb419, 0, none⟩ = some (.slice A0_0 l0_0.length c0_0) := cl BK419 0; have hfz25_0 := blk_frozen BK419.out 0; have hnb26 := NB420_421.out; have hnc26 := NB421_420.out; have hcz27_0 : w22.cell? ⟨gb420, 0, none⟩ = some (.slice A1_0 l1_0.length c1_0) := cl BK420 0; have hcz27_1 : w22.cell? ⟨gb420, 1, none⟩ = some (.int .i64 a1_1) := cl BK420 1; have hfz27_0 := blk_frozen BK420.out 0; have hfz27_1 := blk_frozen BK420.out 1) | ((with_reducible refine gate_callee (f := 32) rfl ?_); refine goesM_ (some 9) rfl rfl Try.func32 #[.agg #[.slice A0_0 l0_0.length c0_0], .agg #[.slice A1_0 l1_0.length c1_0, .int .i64 a1_1]] ?_; (with_reducible refine (impl_MemOk.calls k _ _ l0_0 _ _ l1_0 a1_1 false _ ?side1 ?side2 ?side3 ?side4 A4.out).mono ?_); (case side1 => exact kc (Kd.C_below HR0_0.out HB.out)); (case side2 => exact HC0_0.out); (case side3 => exact kc (Kd.C_below HR1_0.out HB.out)); (case side4 => exact HC1_0.out); rintro e w28 ⟨rfl, hb⟩; refine ⟨_, rfl, ?_⟩; have n0_ := Aside0.mk (blk_below (g := gb419) (o := .cells #[.slice A0_0 l0_0.length c0_0] 29 (0, 0)) (kb BK419.out) hb); have n1_ := Aside0.mk (blk_below (g := gb420) (o := .cells #[.slice A1_0 l1_0.length c1_0, .int .i64 a1_1] 32 (0, 0)) (kb BK420.out) hb); have n2_ := Aside0.mk (blk_below (g := gb421) (o := .cells #[.int .i64 0, .int .i64 0] 51 (0, 0)) (kb BK421.out) hb); have n3_ := Aside0.mk (below_step (bw HB.out) hb); clear BK419; clear BK420; clear BK421; clear HB; have BK419 := n0_; have BK420 := n1_; have BK421 := n2_; have HB := n3_; clear n0_ n1_ n2_ n3_; (try clear hb); (try clear hb2); (try clear hk); (try clear hi); have hcz29_0 : w28.cell? ⟨gb421, 0, none⟩ = some (.int .i64 0) := cl BK421 0; have hcz29_1 : w28.cell? ⟨gb421, 1, none⟩ = some (.int .i64 0) := cl BK421 1; have hfz29_0 := blk_frozen BK421.out 0; have hfz29_1 := blk_frozen BK421.out 1))
  refine bodyPost_ret (results_cell_row rfl _ _ gb421 51 #[.int .i64 0, .int .i64 0] (0, 0) _ rfl (by (with_reducible repeat (first | refine blk_drewN ?_ _ | refine blk_drew ?_ | refine blk_alloc ?_ _)); refine blk_put (cs := #[.int .i64 0, .int .i64 0]) ?_ 1 _ rfl; (with_reducible repeat (first | refine blk_drewN ?_ _ | refine blk_drew ?_ | refine blk_alloc ?_ _)); refine blk_put (cs := #[.int .i64 0, .int .i64 0]) ?_ 0 _ rfl; (with_reducible repeat (first | refine blk_drewN ?_ _ | refine blk_drew ?_ | refine blk_alloc ?_ _)); exact BK421.out) Try.underlying51 rfl (by kernel_rfl)) rfl ?_
  exact ⟨rt, bw HB.out⟩

/-! ### spec_ImageOk: function 20 -/
mutual
def spec_ImageOk.l0 : Nat → Int → List (List Int) → Option (Bool)
 | 0, _, _ => none
 | k + 1, x3, x426000 => if x3 < (x426000.length : Int) then (if 0 ≤ x3 then (if ((rd_L2 x426000 x3).length : Int) = 256 then (spec_ImageOk.l1 k x3 0 x426000) else (some false)) else (none)) else ((spec_l1In.f (x426000.length : Int) 1 8).bind fun t426 => (some t426))
def spec_ImageOk.l1 : Nat → Int → Int → List (List Int) → Option (Bool)
 | 0, _, _, _ => none
 | k + 1, x3, x4, x426000 => if x4 < 256 then (if 0 ≤ x3 then (if x3 < (x426000.length : Int) then (if 0 ≤ x4 then (if x4 < ((rd_L2 x426000 x3).length : Int) then ((spec_l1In.f (rd (rd_L2 x426000 x3) x4) 0 255).bind fun t430 => (if t430 = true then (spec_ImageOk.l1 k x3 (wrap64 (x4 + 1)) x426000) else (some false))) else (none)) else (none)) else (none)) else (none)) else (spec_ImageOk.l0 k (wrap64 (x3 + 1)) x426000)
end
def spec_ImageOk.f (k : Nat) (l0_0 : List (List Int)) : Option (Bool) := spec_ImageOk.l0 k 0 l0_0
set_option maxHeartbeats 8000000 in
set_option maxRecDepth 100000 in
theorem spec_ImageOk.calls (k : Nat) (A0_0 : Option Addr) (c0_0 : Nat) (l0_0 : List (List Int)) (r : Bool) (w : World) (hr0_0 : Kd.C (Kd.slice 3 (Kd.int .i64)) w A0_0 l0_0.length l0_0) (hc0_0 : l0_0.length ≤ c0_0) (h : spec_ImageOk.f k l0_0 = some r) :
  Calls Try.prog 20 #[.agg #[.slice A0_0 l0_0.length c0_0]] w fun e w' => e = .returned (.bool r) ∧ Below w.heap.size w w' := by
 have hu29 := Try.underlying29
 have HR0_0 := Aside0.mk hr0_0
 have HC0_0 := Aside0.mk hc0_0
 clear hr0_0 hc0_0
 have HB := Aside0.mk (Below.refl w.heap.size w)
 have H : (spec_ImageOk.l0 k 0 l0_0) = some r := h
 clear h
 have H' := Aside0.mk H
 clear H
 go_enter Try.func20, Try.ntmps20
 go_wp2_with (first | ((with_reducible refine gate_dst (N := 1) rfl ?_); refine bx (N := 1) (cs := #[.slice A0_0 l0_0.length c0_0]) (t := 29) ?_; intro gb425 hg w2 hbox hb; have n0_ := Aside0.mk (below_step (bw HB.out) hb); have n1_ := Aside0.mk (hbox); have n2_ := Aside0.mk ((gs hg (bw HB.out))); have n3_ := Aside0.mk ((gs hg (bw HB.out))); clear HB; have HB := n0_; have BK425 := n1_; have GW425 := n2_; have GE425 := n3_; clear n0_ n1_ n2_ n3_; clear hb hbox hg))
 go_loopg [3] k (fun kq v3 w' => ∃ (x3_1 : Int), v3 = .int .i64 x3_1 ∧ Aside0 (spec_ImageOk.l0 kq x3_1 l0_0 = some r) ∧ Aside0 (kq ≤ k) ∧ Aside0 (w'.heap[gb425]? = some (.cells #[(.slice A0_0 l0_0.length c0_0)] 29 (0, 0))) ∧ Aside0 (Below w.heap.size w w'))
 case atStart => exact ⟨(0), (by first | rfl | (simp; done) | (simp [*]; done)), H', ⟨Nat.le_refl _⟩, ⟨kb BK425.out⟩, ⟨bw HB.out⟩⟩
 case round =>
  clear H'
  (try clear c2); (try clear p2)
  obtain ⟨x3_1, rfl, HA, HK1, BK425, HB⟩ := hrel
  cases gk with
  | zero => exact absurd HA.out (by simp [spec_ImageOk.l0])
  | succ k1 =>
   have H := HA.out
   clear HA
   simp only [spec_ImageOk.l0] at H
   by_cases c3 : x3_1 < (l0_0.length : Int)
   ·rw [if_pos c3] at H
    have c3b0 : decide (x3_1 < (l0_0.length : Int)) = true := decide_eq_true c3
    clear c3
    by_cases c4 : 0 ≤ x3_1
    ·rw [if_pos c4] at H
     have c4b0 : decide (0 ≤ x3_1) = true := decide_eq_true c4
     clear c4
     by_cases c5 : ((rd_L2 l0_0 x3_1).length : Int) = 256
     ·rw [if_pos c5] at H
      have c5b0 : (((rd_L2 l0_0 x3_1).length : Int) == 256) = true := beq_iff_eq.mpr c5
      have c5b1 : (((rd_L2 l0_0 x3_1).length : Int) != 256) = false := bne_eq_false_iff_eq.mpr c5
      clear c5
      have H' := Aside0.mk H
      clear H
      have hcz6_0 : wr.cell? ⟨gb425, 0, none⟩ = some (.slice A0_0 l0_0.length c0_0) := cl BK425 0
      have hfz6_0 := blk_frozen BK425.out 0
      have p427 : 0 ≤ (x3_1 : Int) := dt
      have q427 : x3_1 < (l0_0.length : Int) := dt
      obtain ⟨ad427, A427_0, c427_0, e427, hx427_0, hl427_0, hi427_0⟩ := at_L2 HR0_0.out x3_1 p427 q427
      cases e427
      replace hx427_0 := (HB.out.cell (World.block_lt_of_cell? w _ hx427_0)).trans hx427_0
      have HR427_0 := Aside0.mk hi427_0
      have HC427_0 := Aside0.mk hl427_0
      clear hi427_0 hl427_0
      replace p427 := eq_true p427
      replace q427 := eq_true q427
      go_wp2
      go_loopg [4] k1 (fun kq v4 w' => ∃ (x4_2 : Int), v4 = .int .i64 x4_2 ∧ Aside0 (spec_ImageOk.l1 kq x3_1 x4_2 l0_0 = some r) ∧ Aside0 (kq ≤ k1) ∧ Aside0 (w'.heap[gb425]? = some (.cells #[(.slice (some ad427) l0_0.length c0_0)] 29 (0, 0))) ∧ Aside0 (Below w.heap.size w w'))
      case atStart => exact ⟨(0), (by first | rfl | (simp; done) | (simp [*]; done)), H', ⟨Nat.le_refl _⟩, ⟨kb BK425.out⟩, ⟨bw HB.out⟩⟩
      case round =>
       clear H'
       (try clear c2); (try clear p2); (try clear c3); (try clear c3b0); (try clear c4); (try clear c4b0); (try clear p4); (try clear q4); (try clear hx4); (try clear c5); (try clear c5b0); (try clear c5b1); (try clear hcz6_0); (try clear hfz6_0); (try clear hx427_0); (try clear p2); (try clear p427); (try clear q427)
       obtain ⟨x4_2, rfl, HA, HK2, BK425, HB⟩ := hrel
       cases gk with
       | zero => exact absurd HA.out (by simp [spec_ImageOk.l1])
       | succ k2 =>
        have H := HA.out
        clear HA
        simp only [spec_ImageOk.l1] at H
        by_cases c7 : x4_2 < 256
        ·rw [if_pos c7] at H
         have c7b0 : decide (x4_2 < 256) = true := decide_eq_true c7
         clear c7
         by_cases c8 : 0 ≤ x3_1
         ·rw [if_pos c8] at H
          have c8b0 : decide (0 ≤ x3_1) = true := decide_eq_true c8
          clear c8
          by_cases c9 : x3_1 < (l0_0.length : Int)
          ·rw [if_pos c9] at H
           have c9b0 : decide (x3_1 < (l0_0.length : Int)) = true := decide_eq_true c9
           clear c9
           by_cases c10 : 0 ≤ x4_2
           ·rw [if_pos c10] at H
            have c10b0 : decide (0 ≤ x4_2) = true := decide_eq_true c10
            clear c10
            by_cases c11 : x4_2 < ((rd_L2 l0_0 x3_1).length : Int)
            ·rw [if_pos c11] at H
             have c11b0 : decide (x4_2 < ((rd_L2 l0_0 x3_1).length : Int)) = true := decide_eq_true c11
             clear c11
             replace H := Option.bind_eq_some_iff.mp H
             obtain ⟨t430, A120, H⟩ := H
             replace H : (if t430 = true then (spec_ImageOk.l1 k2 x3_1 (wrap64 (x4_2 + 1)) l0_0) else (some false)) = some r := H
             have A12 := Aside0.mk A120
             clear A120
             by_cases c13 : t430 = true
             ·subst c13
              have H1 : (spec_ImageOk.l1 k2 x3_1 (wrap64 (x4_2 + 1)) l0_0) = some r := by rw [if_pos rfl] at H; exact H
              clear H
              have H := H1
              clear H1
              have H' := Aside0.mk H
              clear H
              have hcz14_0 : wr.cell? ⟨gb425, 0, none⟩ = some (.slice (some ad427) l0_0.length c0_0) := cl BK425 0
              have hfz14_0 := blk_frozen BK425.out 0
              have p428 : 0 ≤ (x3_1 : Int) := dt
              have q428 : x3_1 < (l0_0.length : Int) := dt
              obtain ⟨ad428, A428_0, c428_0, e428, hx428_0, hl428_0, hi428_0⟩ := at_L2 HR0_0.out x3_1 p428 q428
              obtain rfl : ad427 = ad428 := (by injection e428)
              replace hx428_0 := (HB.out.cell (World.block_lt_of_cell? w _ hx428_0)).trans hx428_0
              have HR428_0 := Aside0.mk hi428_0
              have HC428_0 := Aside0.mk hl428_0
              clear hi428_0 hl428_0
              replace p428 := eq_true p428
              replace q428 := eq_true q428
              have p429 : 0 ≤ (x4_2 : Int) := dt
              have q429 : x4_2 < ((rd_L2 l0_0 x3_1).length : Int) := dt
              obtain ⟨ad429, e429, hx429_0⟩ := Kd.at_int HR428_0.out x4_2 p429 q429
              cases e429
              replace hx429_0 := (HB.out.cell (World.block_lt_of_cell? w _ hx429_0)).trans hx429_0
              replace p429 := eq_true p429
              replace q429 := eq_true q429
              go_wp2_with (first | ((with_reducible refine gate_callee (f := 68) rfl ?_); refine goesM_ (some 31) rfl rfl Try.func68 #[.int .i64 (rd (rd_L2 l0_0 x3_1) x4_2), .int .i64 0, .int .i64 255] ?_; (with_reducible refine (spec_l1In.calls (rd (rd_L2 l0_0 x3_1) x4_2) 0 255 true _ A12.out).mono ?_); rintro e w' ⟨rfl, ⟨nd, rfl⟩⟩; refine ⟨_, rfl, ?_⟩))
              go_roundg k2
              case measure => have := HK1.out; have := HK2.out; omega
              case rel => exact ⟨(wrap64 (x4_2 + 1)), (by first | rfl | (simp; done) | (simp [*]; done)), H', ⟨by have := HK1.out; have := HK2.out; omega⟩, ⟨kb BK425.out⟩, ⟨bw HB.out⟩⟩
             ·replace c13 := Bool.eq_false_iff.mpr c13
              subst c13
              have H1 : (some false) = some r := by rw [if_neg (show ¬ (false = true) by decide)] at H; exact H
              clear H
              have H := H1
              clear H1
              obtain rfl := Option.some.inj H
              have hcz15_0 : wr.cell? ⟨gb425, 0, none⟩ = some (.slice (some ad427) l0_0.length c0_0) := cl BK425 0
              have hfz15_0 := blk_frozen BK425.out 0
              have p428 : 0 ≤ (x3_1 : Int) := dt
              have q428 : x3_1 < (l0_0.length : Int) := dt
              obtain ⟨ad428, A428_0, c428_0, e428, hx428_0, hl428_0, hi428_0⟩ := at_L2 HR0_0.out x3_1 p428 q428
              obtain rfl : ad427 = ad428 := (by injection e428)
              replace hx428_0 := (HB.out.cell (World.block_lt_of_cell? w _ hx428_0)).trans hx428_0
              have HR428_0 := Aside0.mk hi428_0
              have HC428_0 := Aside0.mk hl428_0
              clear hi428_0 hl428_0
              replace p428 := eq_true p428
              replace q428 := eq_true q428
              have p429 : 0 ≤ (x4_2 : Int) := dt
              have q429 : x4_2 < ((rd_L2 l0_0 x3_1).length : Int) := dt
              obtain ⟨ad429, e429, hx429_0⟩ := Kd.at_int HR428_0.out x4_2 p429 q429
              cases e429
              replace hx429_0 := (HB.out.cell (World.block_lt_of_cell? w _ hx429_0)).trans hx429_0
              replace p429 := eq_true p429
              replace q429 := eq_true q429
              go_wp2_with (first | ((with_reducible refine gate_callee (f := 68) rfl ?_); refine goesM_ (some 31) rfl rfl Try.func68 #[.int .i64 (rd (rd_L2 l0_0 x3_1) x4_2), .int .i64 0, .int .i64 255] ?_; (with_reducible refine (spec_l1In.calls (rd (rd_L2 l0_0 x3_1) x4_2) 0 255 false _ A12.out).mono ?_); rintro e w' ⟨rfl, ⟨nd, rfl⟩⟩; refine ⟨_, rfl, ?_⟩))
              go_ret
              exact ⟨rt, bw HB.out⟩
            ·rw [if_neg c11] at H
             exact absurd H (by simp)
           ·rw [if_neg c10] at H
            exact absurd H (by simp)
          ·rw [if_neg c9] at H
           exact absurd H (by simp)
         ·rw [if_neg c8] at H
          exact absurd H (by simp)
        ·rw [if_neg c7] at H
         have c7b0 : decide (x4_2 < 256) = false := decide_eq_false c7
         clear c7
         have H' := Aside0.mk H
         clear H
         go_wp2
         go_roundg k2
         case measure => have := HK1.out; have := HK2.out; omega
         case rel => exact ⟨(wrap64 (x3_1 + 1)), (by first | rfl | (simp; done) | (simp [*]; done)), H', ⟨by have := HK1.out; have := HK2.out; omega⟩, ⟨kb BK425.out⟩, ⟨bw HB.out⟩⟩
     ·rw [if_neg c5] at H
      have c5b0 : (((rd_L2 l0_0 x3_1).length : Int) == 256) = false := beq_eq_false_iff_ne.mpr c5
      have c5b1 : (((rd_L2 l0_0 x3_1).length : Int) != 256) = true := bne_iff_ne.mpr c5
      obtain rfl := Option.some.inj H
      have hcz16_0 : wr.cell? ⟨gb425, 0, none⟩ = some (.slice A0_0 l0_0.length c0_0) := cl BK425 0
      have hfz16_0 := blk_frozen BK425.out 0
      have p427 : 0 ≤ (x3_1 : Int) := dt
      have q427 : x3_1 < (l0_0.length : Int) := dt
      obtain ⟨ad427, A427_0, c427_0, e427, hx427_0, hl427_0, hi427_0⟩ := at_L2 HR0_0.out x3_1 p427 q427
      cases e427
      replace hx427_0 := (HB.out.cell (World.block_lt_of_cell? w _ hx427_0)).trans hx427_0
      have HR427_0 := Aside0.mk hi427_0
      have HC427_0 := Aside0.mk hl427_0
      clear hi427_0 hl427_0
      replace p427 := eq_true p427
      replace q427 := eq_true q427
      go_wp2
      go_ret
      exact ⟨rt, bw HB.out⟩
    ·rw [if_neg c4] at H
     exact absurd H (by simp)
   ·rw [if_neg c3] at H
    have c3b0 : decide (x3_1 < (l0_0.length : Int)) = false := decide_eq_false c3
    clear c3
    replace H := Option.bind_eq_some_iff.mp H
    obtain ⟨t426, A170, H⟩ := H
    replace H : (some t426) = some r := H
    have A17 := Aside0.mk A170
    clear A170
    obtain rfl := Option.some.inj H
    have hcz18_0 : wr.cell? ⟨gb425, 0, none⟩ = some (.slice A0_0 l0_0.length c0_0) := cl BK425 0
    have hfz18_0 := blk_frozen BK425.out 0
    go_wp2_with (first | ((with_reducible refine gate_callee (f := 68) rfl ?_); refine goesM_ (some 36) rfl rfl Try.func68 #[.int .i64 (l0_0.length : Int), .int .i64 1, .int .i64 8] ?_; (with_reducible refine (spec_l1In.calls (l0_0.length : Int) 1 8 t426 _ A17.out).mono ?_); rintro e w' ⟨rfl, ⟨nd, rfl⟩⟩; refine ⟨_, rfl, ?_⟩))
    go_ret
    exact ⟨rt, bw HB.out⟩

/-! ### spec_l5Byte: function 79 -/
def spec_l5Byte.f (a0 : Int) : Option (Bool) := (spec_l1In.f a0 0 255).bind fun t431 => (some t431)
set_option maxHeartbeats 8000000 in
set_option maxRecDepth 100000 in
theorem spec_l5Byte.calls (a0 : Int) (r : Bool) (w : World) (h : spec_l5Byte.f a0 = some r) :
  Calls Try.prog 79 #[.int .i64 a0] w fun e w' => e = .returned (.bool r) ∧ Drawn0 w w' := by
 have H : ((spec_l1In.f a0 0 255).bind fun t431 => (some t431)) = some r := h
 clear h
 replace H := Option.bind_eq_some_iff.mp H
 obtain ⟨t431, A20, H⟩ := H
 replace H : (some t431) = some r := H
 have A2 := Aside0.mk A20
 clear A20
 obtain rfl := Option.some.inj H
 go_enter Try.func79, Try.ntmps79
 go_wp2_with (first | ((with_reducible refine gate_callee (f := 68) rfl ?_); refine goesM_ (some 4) rfl rfl Try.func68 #[.int .i64 a0, .int .i64 0, .int .i64 255] ?_; (with_reducible refine (spec_l1In.calls a0 0 255 t431 _ A2.out).mono ?_); rintro e w' ⟨rfl, ⟨nd, rfl⟩⟩; refine ⟨_, rfl, ?_⟩))
 go_ret
 exact ⟨by first | rfl | (simp; done) | (simp [*]; done), by repeat (first | exact Drawn0.refl _ | apply Drawn0.step)⟩

/-! ### spec_MemOk: function 33 -/
mutual
def spec_MemOk.j0 : Nat → Bool → List Int → Int → Option (Bool)
 | 0, _, _, _ => none
 | k + 1, x24, x434000, x434001 => if x24 = true then (some false) else (spec_MemOk.l0 k 0 x434000 x434001)
def spec_MemOk.l0 : Nat → Int → List Int → Int → Option (Bool)
 | 0, _, _, _ => none
 | k + 1, x5, x434000, x434001 => if x5 < 512 then (if 0 ≤ x5 then (if x5 < (x434000.length : Int) then ((spec_l5Byte.f (rd x434000 x5)).bind fun t437 => (if t437 = true then (spec_MemOk.l0 k (wrap64 (x5 + 1)) x434000 x434001) else (some false))) else (none)) else (none)) else (some true)
end
def spec_MemOk.f (k : Nat) (l0_0 : List (List Int)) (l1_0 : List Int) (a1_1 : Int) : Option (Bool) := (spec_ImageOk.f k l0_0).bind fun t434 => (if t434 = true then (if (l1_0.length : Int) = 512 then ((spec_l1In.f a1_1 0 (wrap64 ((l0_0.length : Int) - 1))).bind fun t435 => (spec_MemOk.j0 k (!t435) l1_0 a1_1)) else (spec_MemOk.j0 k true l1_0 a1_1)) else (spec_MemOk.j0 k true l1_0 a1_1))
set_option maxHeartbeats 8000000 in
set_option maxRecDepth 100000 in
theorem spec_MemOk.calls (k : Nat) (A0_0 : Option Addr) (c0_0 : Nat) (l0_0 : List (List Int)) (A1_0 : Option Addr) (c1_0 : Nat) (l1_0 : List Int) (a1_1 : Int) (r : Bool) (w : World) (hr0_0 : Kd.C (Kd.slice 3 (Kd.int .i64)) w A0_0 l0_0.length l0_0) (hc0_0 : l0_0.length ≤ c0_0) (hr1_0 : Kd.C (Kd.int .i64) w A1_0 l1_0.length l1_0) (hc1_0 : l1_0.length ≤ c1_0) (h : spec_MemOk.f k l0_0 l1_0 a1_1 = some r) :
  Calls Try.prog 33 #[.agg #[.slice A0_0 l0_0.length c0_0], .agg #[.slice A1_0 l1_0.length c1_0, .int .i64 a1_1]] w fun e w' => e = .returned (.bool r) ∧ Below w.heap.size w w' := by
 have hu29 := Try.underlying29
 have hu32 := Try.underlying32
 have HR0_0 := Aside0.mk hr0_0
 have HC0_0 := Aside0.mk hc0_0
 clear hr0_0 hc0_0
 have HR1_0 := Aside0.mk hr1_0
 have HC1_0 := Aside0.mk hc1_0
 clear hr1_0 hc1_0
 have HB := Aside0.mk (Below.refl w.heap.size w)
 have H : ((spec_ImageOk.f k l0_0).bind fun t434 => (if t434 = true then (if (l1_0.length : Int) = 512 then ((spec_l1In.f a1_1 0 (wrap64 ((l0_0.length : Int) - 1))).bind fun t435 => (spec_MemOk.j0 k (!t435) l1_0 a1_1)) else (spec_MemOk.j0 k true l1_0 a1_1)) else (spec_MemOk.j0 k true l1_0 a1_1))) = some r := h
 clear h
 have HC3 := Aside0.mk H
 clear H
 go_enter Try.func33, Try.ntmps33
 go_upto_region 1 with (first | ((with_reducible refine gate_dst (N := 2) rfl ?_); (try (refine gate_guard (by rfl) ?_; dsimp only)); refine bx (N := 2) (cs := #[.slice A0_0 l0_0.length c0_0]) (t := 29) ?_; intro gb432 hg w4 hbox hb; have n0_ := Aside0.mk (below_step (bw HB.out) hb); have n1_ := Aside0.mk (hbox); have n2_ := Aside0.mk ((gs hg (bw HB.out))); have n3_ := Aside0.mk ((gs hg (bw HB.out))); clear HB; have HB := n0_; have BK432 := n1_; have GW432 := n2_; have GE432 := n3_; clear n0_ n1_ n2_ n3_; clear hb hbox hg) | ((with_reducible refine gate_dst (N := 3) rfl ?_); (try (refine gate_guard (by rfl) ?_; dsimp only)); refine bx (N := 3) (cs := #[.slice A1_0 l1_0.length c1_0, .int .i64 a1_1]) (t := 32) ?_; intro gb433 hg w5 hbox hb; have n0_ := Aside0.mk (blk_below (g := gb432) (o := .cells #[.slice A0_0 l0_0.length c0_0] 29 (0, 0)) (kb BK432.out) hb); have n1_ := Aside0.mk (below_step (bw HB.out) hb); have n2_ := Aside0.mk (hbox); have n3_ := Aside0.mk ((gs hg (bw HB.out))); have n4_ := Aside0.mk ((gs hg (bw HB.out))); have n5_ := Aside0.mk ((ga hg BK432.out)); have n6_ := Aside0.mk ((gc hg BK432.out)); clear BK432; clear HB; have BK432 := n0_; have HB := n1_; have BK433 := n2_; have GW433 := n3_; have GE433 := n4_; have NB432_433 := n5_; have NB433_432 := n6_; clear n0_ n1_ n2_ n3_ n4_ n5_ n6_; clear hb hbox hg))
 (try simp only [Act.put, List.setIfInBounds_toArray, List.set_cons_zero, List.set_cons_succ])
 go_cut [24] (fun v24 wc => ∃ (kq : Nat) (x24_2 : Bool), v24 = .bool x24_2 ∧ Aside0 (spec_MemOk.j0 kq x24_2 l1_0 a1_1 = some r) ∧ Aside0 (kq ≤ k) ∧ Aside0 (wc.heap[gb432]? = some (.cells #[(.slice A0_0 l0_0.length c0_0)] 29 (0, 0))) ∧ Aside0 (wc.heap[gb433]? = some (.cells #[(.slice A1_0 l1_0.length c1_0), .int .i64 a1_1] 32 (0, 0))) ∧ Aside0 (Below w.heap.size w wc))
 case first =>
  have H := HC3.out
  clear HC3
  replace H := Option.bind_eq_some_iff.mp H
  obtain ⟨t434, A60, H⟩ := H
  replace H : (if t434 = true then (if (l1_0.length : Int) = 512 then ((spec_l1In.f a1_1 0 (wrap64 ((l0_0.length : Int) - 1))).bind fun t435 => (spec_MemOk.j0 k (!t435) l1_0 a1_1)) else (spec_MemOk.j0 k true l1_0 a1_1)) else (spec_MemOk.j0 k true l1_0 a1_1)) = some r := H
  have A6 := Aside0.mk A60
  clear A60
  by_cases c7 : t434 = true
  ·subst c7
   have H1 : (if (l1_0.length : Int) = 512 then ((spec_l1In.f a1_1 0 (wrap64 ((l0_0.length : Int) - 1))).bind fun t435 => (spec_MemOk.j0 k (!t435) l1_0 a1_1)) else (spec_MemOk.j0 k true l1_0 a1_1)) = some r := by rw [if_pos rfl] at H; exact H
   clear H
   have H := H1
   clear H1
   by_cases c8 : (l1_0.length : Int) = 512
   ·rw [if_pos c8] at H
    have c8b0 : ((l1_0.length : Int) == 512) = true := beq_iff_eq.mpr c8
    have c8b1 : ((l1_0.length : Int) != 512) = false := bne_eq_false_iff_eq.mpr c8
    clear c8
    (first | rw [c8b0] | (simp only [i64_w, i32_w]; rw [c8b0]) | skip)
    replace H := Option.bind_eq_some_iff.mp H
    obtain ⟨t435, A90, H⟩ := H
    replace H : (spec_MemOk.j0 k (!t435) l1_0 a1_1) = some r := H
    have A9 := Aside0.mk A90
    clear A90
    have H' := Aside0.mk H
    clear H
    have hnb10 := NB432_433.out
    have hnc10 := NB433_432.out
    have hcz11_0 : w5.cell? ⟨gb432, 0, none⟩ = some (.slice A0_0 l0_0.length c0_0) := cl BK432 0
    have hfz11_0 := blk_frozen BK432.out 0
    go_wp2_with (first | ((with_reducible refine gate_callee (f := 20) rfl ?_); refine goesM_ (some 7) rfl rfl Try.func20 #[.agg #[.slice A0_0 l0_0.length c0_0]] ?_; (with_reducible refine (spec_ImageOk.calls k _ _ l0_0 true _ ?side1 ?side2 A6.out).mono ?_); (case side1 => exact kc (Kd.C_below HR0_0.out HB.out)); (case side2 => exact HC0_0.out); rintro e w12 ⟨rfl, hb⟩; refine ⟨_, rfl, ?_⟩; have n0_ := Aside0.mk (blk_below (g := gb432) (o := .cells #[.slice A0_0 l0_0.length c0_0] 29 (0, 0)) (kb BK432.out) hb); have n1_ := Aside0.mk (blk_below (g := gb433) (o := .cells #[.slice A1_0 l1_0.length c1_0, .int .i64 a1_1] 32 (0, 0)) (kb BK433.out) hb); have n2_ := Aside0.mk (below_step (bw HB.out) hb); clear BK432; clear BK433; clear HB; have BK432 := n0_; have BK433 := n1_; have HB := n2_; clear n0_ n1_ n2_; (try clear hb); (try clear hb2); (try clear hk); (try clear hi); have hcz13_0 : w12.cell? ⟨gb433, 0, none⟩ = some (.slice A1_0 l1_0.length c1_0) := cl BK433 0; have hcz13_1 : w12.cell? ⟨gb433, 1, none⟩ = some (.int .i64 a1_1) := cl BK433 1; have hfz13_0 := blk_frozen BK433.out 0; have hfz13_1 := blk_frozen BK433.out 1; have hcz14_0 : w12.cell? ⟨gb432, 0, none⟩ = some (.slice A0_0 l0_0.length c0_0) := cl BK432 0; have hfz14_0 := blk_frozen BK432.out 0) | (go_at_call 68; (with_reducible refine (spec_l1In.calls a1_1 0 (wrap64 ((l0_0.length : Int) - 1)) t435 _ A9.out).mono ?_); rintro e w' ⟨rfl, ⟨nd, rfl⟩⟩))
    go_meet
    case rel => exact ⟨_, (!t435), (by first | rfl | (simp; done) | (simp [*]; done)), H', ⟨by first | omega | exact Nat.le_refl _⟩, ⟨kb BK432.out⟩, ⟨kb BK433.out⟩, ⟨bw HB.out⟩⟩
   ·rw [if_neg c8] at H
    have c8b0 : ((l1_0.length : Int) == 512) = false := beq_eq_false_iff_ne.mpr c8
    have c8b1 : ((l1_0.length : Int) != 512) = true := bne_iff_ne.mpr c8
    (first | rw [c8b0] | (simp only [i64_w, i32_w]; rw [c8b0]) | skip)
    have H' := Aside0.mk H
    clear H
    have hnb15 := NB432_433.out
    have hnc15 := NB433_432.out
    have hcz16_0 : w5.cell? ⟨gb432, 0, none⟩ = some (.slice A0_0 l0_0.length c0_0) := cl BK432 0
    have hfz16_0 := blk_frozen BK432.out 0
    go_wp2_with (first | ((with_reducible refine gate_callee (f := 20) rfl ?_); refine goesM_ (some 7) rfl rfl Try.func20 #[.agg #[.slice A0_0 l0_0.length c0_0]] ?_; (with_reducible refine (spec_ImageOk.calls k _ _ l0_0 true _ ?side1 ?side2 A6.out).mono ?_); (case side1 => exact kc (Kd.C_below HR0_0.out HB.out)); (case side2 => exact HC0_0.out); rintro e w17 ⟨rfl, hb⟩; refine ⟨_, rfl, ?_⟩; have n0_ := Aside0.mk (blk_below (g := gb432) (o := .cells #[.slice A0_0 l0_0.length c0_0] 29 (0, 0)) (kb BK432.out) hb); have n1_ := Aside0.mk (blk_below (g := gb433) (o := .cells #[.slice A1_0 l1_0.length c1_0, .int .i64 a1_1] 32 (0, 0)) (kb BK433.out) hb); have n2_ := Aside0.mk (below_step (bw HB.out) hb); clear BK432; clear BK433; clear HB; have BK432 := n0_; have BK433 := n1_; have HB := n2_; clear n0_ n1_ n2_; (try clear hb); (try clear hb2); (try clear hk); (try clear hi); have hcz18_0 : w17.cell? ⟨gb433, 0, none⟩ = some (.slice A1_0 l1_0.length c1_0) := cl BK433 0; have hcz18_1 : w17.cell? ⟨gb433, 1, none⟩ = some (.int .i64 a1_1) := cl BK433 1; have hfz18_0 := blk_frozen BK433.out 0; have hfz18_1 := blk_frozen BK433.out 1))
    go_meet
    case rel => exact ⟨_, (true), (by first | rfl | (simp; done) | (simp [*]; done)), H', ⟨by first | omega | exact Nat.le_refl _⟩, ⟨kb BK432.out⟩, ⟨kb BK433.out⟩, ⟨bw HB.out⟩⟩
  ·replace c7 := Bool.eq_false_iff.mpr c7
   subst c7
   have H1 : (spec_MemOk.j0 k true l1_0 a1_1) = some r := by rw [if_neg (show ¬ (false = true) by decide)] at H; exact H
   clear H
   have H := H1
   clear H1
   have H' := Aside0.mk H
   clear H
   have hnb19 := NB432_433.out
   have hnc19 := NB433_432.out
   have hcz20_0 : w5.cell? ⟨gb432, 0, none⟩ = some (.slice A0_0 l0_0.length c0_0) := cl BK432 0
   have hfz20_0 := blk_frozen BK432.out 0
   go_wp2_with (first | ((with_reducible refine gate_callee (f := 20) rfl ?_); refine goesM_ (some 7) rfl rfl Try.func20 #[.agg #[.slice A0_0 l0_0.length c0_0]] ?_; (with_reducible refine (spec_ImageOk.calls k _ _ l0_0 false _ ?side1 ?side2 A6.out).mono ?_); (case side1 => exact kc (Kd.C_below HR0_0.out HB.out)); (case side2 => exact HC0_0.out); rintro e w21 ⟨rfl, hb⟩; refine ⟨_, rfl, ?_⟩; have n0_ := Aside0.mk (blk_below (g := gb432) (o := .cells #[.slice A0_0 l0_0.length c0_0] 29 (0, 0)) (kb BK432.out) hb); have n1_ := Aside0.mk (blk_below (g := gb433) (o := .cells #[.slice A1_0 l1_0.length c1_0, .int .i64 a1_1] 32 (0, 0)) (kb BK433.out) hb); have n2_ := Aside0.mk (below_step (bw HB.out) hb); clear BK432; clear BK433; clear HB; have BK432 := n0_; have BK433 := n1_; have HB := n2_; clear n0_ n1_ n2_; (try clear hb); (try clear hb2); (try clear hk); (try clear hi)))
   go_meet
   case rel => exact ⟨_, (true), (by first | rfl | (simp; done) | (simp [*]; done)), H', ⟨by first | omega | exact Nat.le_refl _⟩, ⟨kb BK432.out⟩, ⟨kb BK433.out⟩, ⟨bw HB.out⟩⟩
 case rest =>
  clear HC3; (try clear c1); (try clear c2); (try clear p2); (try clear c3); (try clear p6); (try clear c7); (try clear c8); (try clear c8b0); (try clear c8b1); (try clear c10); (try clear c15); (try clear c19); (try clear c20); (try clear hcz11_0); (try clear hcz13_0); (try clear hcz13_1); (try clear hcz14_0); (try clear hcz16_0); (try clear hcz18_0); (try clear hcz18_1); (try clear hcz20_0); (try clear hfz11_0); (try clear hfz13_0); (try clear hfz13_1); (try clear hfz14_0); (try clear hfz16_0); (try clear hfz18_0); (try clear hfz18_1); (try clear hfz20_0)
  obtain ⟨kq, x24_2, rfl, HA, HJ2, BK432, BK433, HB⟩ := hcut
  cases kq with
  | zero => exact absurd HA.out (by simp [spec_MemOk.j0])
  | succ kj2 =>
   have H := HA.out
   clear HA
   simp only [spec_MemOk.j0] at H
   by_cases c22 : x24_2 = true
   ·subst c22
    have H1 : (some false) = some r := by rw [if_pos rfl] at H; exact H
    clear H
    have H := H1
    clear H1
    obtain rfl := Option.some.inj H
    go_wp2
    go_ret
    exact ⟨rt, bw HB.out⟩
   ·replace c22 := Bool.eq_false_iff.mpr c22
    subst c22
    have H1 : (spec_MemOk.l0 kj2 0 l1_0 a1_1) = some r := by rw [if_neg (show ¬ (false = true) by decide)] at H; exact H
    clear H
    have H := H1
    clear H1
    have H' := Aside0.mk H
    clear H
    go_wp2
    go_loopg [5] kj2 (fun kq v5 w' => ∃ (x5_2 : Int), v5 = .int .i64 x5_2 ∧ Aside0 (spec_MemOk.l0 kq x5_2 l1_0 a1_1 = some r) ∧ Aside0 (kq ≤ kj2) ∧ Aside0 (w'.heap[gb432]? = some (.cells #[(.slice A0_0 l0_0.length c0_0)] 29 (0, 0))) ∧ Aside0 (w'.heap[gb433]? = some (.cells #[(.slice A1_0 l1_0.length c1_0), .int .i64 a1_1] 32 (0, 0))) ∧ Aside0 (Below w.heap.size w w'))
    case atStart => exact ⟨(0), (by first | rfl | (simp; done) | (simp [*]; done)), H', ⟨Nat.le_refl _⟩, ⟨kb BK432.out⟩, ⟨kb BK433.out⟩, ⟨bw HB.out⟩⟩
    case round =>
     clear H'
     (try clear c1); (try clear c2); (try clear p2); (try clear c3); (try clear p6); (try clear c7); (try clear c8); (try clear c8b0); (try clear c8b1); (try clear c10); (try clear c15); (try clear c19); (try clear c20); (try clear c22); (try clear hcz11_0); (try clear hcz13_0); (try clear hcz13_1); (try clear hcz14_0); (try clear hcz16_0); (try clear hcz18_0); (try clear hcz18_1); (try clear hcz20_0); (try clear hfz11_0); (try clear hfz13_0); (try clear hfz13_1); (try clear hfz14_0); (try clear hfz16_0); (try clear hfz18_0); (try clear hfz18_1); (try clear hfz20_0); (try clear p2); (try clear p6)
     obtain ⟨x5_2, rfl, HA, HK2, BK432, BK433, HB⟩ := hrel
     cases gk with
     | zero => exact absurd HA.out (by simp [spec_MemOk.l0])
     | succ k2 =>
      have H := HA.out
      clear HA
      simp only [spec_MemOk.l0] at H
      by_cases c23 : x5_2 < 512
      ·rw [if_pos c23] at H
       have c23b0 : decide (x5_2 < 512) = true := decide_eq_true c23
       clear c23
       by_cases c24 : 0 ≤ x5_2
       ·rw [if_pos c24] at H
        have c24b0 : decide (0 ≤ x5_2) = true := decide_eq_true c24
        clear c24
        by_cases c25 : x5_2 < (l1_0.length : Int)
        ·rw [if_pos c25] at H
         have c25b0 : decide (x5_2 < (l1_0.length : Int)) = true := decide_eq_true c25
         clear c25
         replace H := Option.bind_eq_some_iff.mp H
         obtain ⟨t437, A260, H⟩ := H
         replace H : (if t437 = true then (spec_MemOk.l0 k2 (wrap64 (x5_2 + 1)) l1_0 a1_1) else (some false)) = some r := H
         have A26 := Aside0.mk A260
         clear A260
         by_cases c27 : t437 = true
         ·subst c27
          have H1 : (spec_MemOk.l0 k2 (wrap64 (x5_2 + 1)) l1_0 a1_1) = some r := by rw [if_pos rfl] at H; exact H
          clear H
          have H := H1
          clear H1
          have H' := Aside0.mk H
          clear H
          have hnb28 := NB433_432.out
          have hnc28 := NB432_433.out
          have hcz29_0 : wr.cell? ⟨gb433, 0, none⟩ = some (.slice A1_0 l1_0.length c1_0) := cl BK433 0
          have hcz29_1 : wr.cell? ⟨gb433, 1, none⟩ = some (.int .i64 a1_1) := cl BK433 1
          have hfz29_0 := blk_frozen BK433.out 0
          have hfz29_1 := blk_frozen BK433.out 1
          have p436 : 0 ≤ (x5_2 : Int) := dt
          have q436 : x5_2 < (l1_0.length : Int) := dt
          obtain ⟨ad436, e436, hx436_0⟩ := Kd.at_int HR1_0.out x5_2 p436 q436
          cases e436
          replace hx436_0 := (HB.out.cell (World.block_lt_of_cell? w _ hx436_0)).trans hx436_0
          replace p436 := eq_true p436
          replace q436 := eq_true q436
          go_wp2_with (first | ((with_reducible refine gate_callee (f := 79) rfl ?_); refine goesM_ (some 34) rfl rfl Try.func79 #[.int .i64 (rd l1_0 x5_2)] ?_; (with_reducible refine (spec_l5Byte.calls (rd l1_0 x5_2) true _ A26.out).mono ?_); rintro e w' ⟨rfl, ⟨nd, rfl⟩⟩; refine ⟨_, rfl, ?_⟩))
          go_roundg k2
          case measure => have := HJ2.out; have := HK2.out; omega
          case rel => exact ⟨(wrap64 (x5_2 + 1)), (by first | rfl | (simp; done) | (simp [*]; done)), H', ⟨by have := HJ2.out; have := HK2.out; omega⟩, ⟨kb BK432.out⟩, ⟨kb BK433.out⟩, ⟨bw HB.out⟩⟩
         ·replace c27 := Bool.eq_false_iff.mpr c27
          subst c27
          have H1 : (some false) = some r := by rw [if_neg (show ¬ (false = true) by decide)] at H; exact H
          clear H
          have H := H1
          clear H1
          obtain rfl := Option.some.inj H
          have hnb30 := NB433_432.out
          have hnc30 := NB432_433.out
          have hcz31_0 : wr.cell? ⟨gb433, 0, none⟩ = some (.slice A1_0 l1_0.length c1_0) := cl BK433 0
          have hcz31_1 : wr.cell? ⟨gb433, 1, none⟩ = some (.int .i64 a1_1) := cl BK433 1
          have hfz31_0 := blk_frozen BK433.out 0
          have hfz31_1 := blk_frozen BK433.out 1
          have p436 : 0 ≤ (x5_2 : Int) := dt
          have q436 : x5_2 < (l1_0.length : Int) := dt
          obtain ⟨ad436, e436, hx436_0⟩ := Kd.at_int HR1_0.out x5_2 p436 q436
          cases e436
          replace hx436_0 := (HB.out.cell (World.block_lt_of_cell? w _ hx436_0)).trans hx436_0
          replace p436 := eq_true p436
          replace q436 := eq_true q436
          go_wp2_with (first | ((with_reducible refine gate_callee (f := 79) rfl ?_); refine goesM_ (some 34) rfl rfl Try.func79 #[.int .i64 (rd l1_0 x5_2)] ?_; (with_reducible refine (spec_l5Byte.calls (rd l1_0 x5_2) false _ A26.out).mono ?_); rintro e w' ⟨rfl, ⟨nd, rfl⟩⟩; refine ⟨_, rfl, ?_⟩))
          go_ret
          exact ⟨rt, bw HB.out⟩
        ·rw [if_neg c25] at H
         exact absurd H (by simp)
       ·rw [if_neg c24] at H
        exact absurd H (by simp)
      ·rw [if_neg c23] at H
       have c23b0 : decide (x5_2 < 512) = false := decide_eq_false c23
       clear c23
       obtain rfl := Option.some.inj H
       go_wp2
       go_ret
       exact ⟨rt, bw HB.out⟩

/-! ### spec_Addr: function 61 -/
def spec_Addr.f (a0 : Int) : Option (Int) := some (Go.bits .and .i64 a0 65535)
set_option maxHeartbeats 8000000 in
set_option maxRecDepth 100000 in
theorem spec_Addr.calls (a0 : Int) (r : Int) (w : World) (h : spec_Addr.f a0 = some r) :
  Calls Try.prog 61 #[.int .i64 a0] w fun e w' => e = .returned (.int .i64 r) ∧ Drawn0 w w' := by
 have H : (some (Go.bits .and .i64 a0 65535)) = some r := h
 clear h
 obtain rfl := Option.some.inj H
 go_enter Try.func61, Try.ntmps61
 go_wp2
 go_ret
 exact ⟨by first | rfl | (simp; done) | (simp [*]; done), by repeat (first | exact Drawn0.refl _ | apply Drawn0.step)⟩

/-! ### spec_Region: function 12 -/
def spec_Region.f (a0 : Int) : Option (Int × Int) := (spec_Addr.f a0).bind fun t438 => (if t438 < 8192 then (some (1, Int.tmod t438 512)) else (if t438 < 16384 then (some (2, Int.tmod t438 8)) else (if t438 < 16388 then (some (3, Int.tmod t438 4)) else (if t438 = 16406 then (some (4, 0)) else (if t438 < 32768 then (some (7, 0)) else (if t438 < 49152 then (some (5, Int.tmod t438 256)) else (some (6, Int.tmod t438 256))))))))
set_option maxHeartbeats 8000000 in
set_option maxRecDepth 100000 in
theorem spec_Region.calls (a0 : Int) (r1 : Int) (r2 : Int) (w : World) (h : spec_Region.f a0 = some (r1, r2)) :
  Calls Try.prog 12 #[.int .i64 a0] w fun e w' => e = .returned (.tuple #[.int .i64 r1, .int .i64 r2]) ∧ Drawn0 w w' := by
 have H : ((spec_Addr.f a0).bind fun t438 => (if t438 < 8192 then (some (1, Int.tmod t438 512)) else (if t438 < 16384 then (some (2, Int.tmod t438 8)) else (if t438 < 16388 then (some (3, Int.tmod t438 4)) else (if t438 = 16406 then (some (4, 0)) else (if t438 < 32768 then (some (7, 0)) else (if t438 < 49152 then (some (5, Int.tmod t438 256)) else (some (6, Int.tmod t438 256))))))))) = some (r1, r2) := h
 clear h
 replace H := Option.bind_eq_some_iff.mp H
 obtain ⟨t438, A20, H⟩ := H
 replace H : (if t438 < 8192 then (some (1, Int.tmod t438 512)) else (if t438 < 16384 then (some (2, Int.tmod t438 8)) else (if t438 < 16388 then (some (3, Int.tmod t438 4)) else (if t438 = 16406 then (some (4, 0)) else (if t438 < 32768 then (some (7, 0)) else (if t438 < 49152 then (some (5, Int.tmod t438 256)) else (some (6, Int.tmod t438 256)))))))) = some (r1, r2) := H
 have A2 := Aside0.mk A20
 clear A20
 by_cases c3 : t438 < 8192
 ·rw [if_pos c3] at H
  have c3b0 : decide (t438 < 8192) = true := decide_eq_true c3
  clear c3
  simp only [Option.some.injEq, Prod.mk.injEq] at H
  obtain ⟨rfl, rfl⟩ := H
  go_enter Try.func12, Try.ntmps12
  go_wp2_with (first | ((with_reducible refine gate_callee (f := 61) rfl ?_); refine goesM_ (some 6) rfl rfl Try.func61 #[.int .i64 a0] ?_; (with_reducible refine (spec_Addr.calls a0 t438 _ A2.out).mono ?_); rintro e w' ⟨rfl, ⟨nd, rfl⟩⟩; refine ⟨_, rfl, ?_⟩))
  go_ret2
  exact ⟨by first | rfl | (simp; done) | (simp [*]; done), by repeat (first | exact Drawn0.refl _ | apply Drawn0.step)⟩
 ·rw [if_neg c3] at H
  have c3b0 : decide (t438 < 8192) = false := decide_eq_false c3
  clear c3
  by_cases c4 : t438 < 16384
  ·rw [if_pos c4] at H
   have c4b0 : decide (t438 < 16384) = true := decide_eq_true c4
   clear c4
   simp only [Option.some.injEq, Prod.mk.injEq] at H
   obtain ⟨rfl, rfl⟩ := H
   go_enter Try.func12, Try.ntmps12
   go_wp2_with (first | ((with_reducible refine gate_callee (f := 61) rfl ?_); refine goesM_ (some 6) rfl rfl Try.func61 #[.int .i64 a0] ?_; (with_reducible refine (spec_Addr.calls a0 t438 _ A2.out).mono ?_); rintro e w' ⟨rfl, ⟨nd, rfl⟩⟩; refine ⟨_, rfl, ?_⟩))
   go_ret2
   exact ⟨by first | rfl | (simp; done) | (simp [*]; done), by repeat (first | exact Drawn0.refl _ | apply Drawn0.step)⟩
  ·rw [if_neg c4] at H
   have c4b0 : decide (t438 < 16384) = false := decide_eq_false c4
   clear c4
   by_cases c5 : t438 < 16388
   ·rw [if_pos c5] at H
    have c5b0 : decide (t438 < 16388) = true := decide_eq_true c5
    clear c5
    simp only [Option.some.injEq, Prod.mk.injEq] at H
    obtain ⟨rfl, rfl⟩ := H
    go_enter Try.func12, Try.ntmps12
    go_wp2_with (first | ((with_reducible refine gate_callee (f := 61) rfl ?_); refine goesM_ (some 6) rfl rfl Try.func61 #[.int .i64 a0] ?_; (with_reducible refine (spec_Addr.calls a0 t438 _ A2.out).mono ?_); rintro e w' ⟨rfl, ⟨nd, rfl⟩⟩; refine ⟨_, rfl, ?_⟩))
    go_ret2
    exact ⟨by first | rfl | (simp; done) | (simp [*]; done), by repeat (first | exact Drawn0.refl _ | apply Drawn0.step)⟩
   ·rw [if_neg c5] at H
    have c5b0 : decide (t438 < 16388) = false := decide_eq_false c5
    clear c5
    by_cases c6 : t438 = 16406
    ·rw [if_pos c6] at H
     have c6b0 : (t438 == 16406) = true := beq_iff_eq.mpr c6
     have c6b1 : (t438 != 16406) = false := bne_eq_false_iff_eq.mpr c6
     clear c6
     simp only [Option.some.injEq, Prod.mk.injEq] at H
     obtain ⟨rfl, rfl⟩ := H
     go_enter Try.func12, Try.ntmps12
     go_wp2_with (first | ((with_reducible refine gate_callee (f := 61) rfl ?_); refine goesM_ (some 6) rfl rfl Try.func61 #[.int .i64 a0] ?_; (with_reducible refine (spec_Addr.calls a0 t438 _ A2.out).mono ?_); rintro e w' ⟨rfl, ⟨nd, rfl⟩⟩; refine ⟨_, rfl, ?_⟩))
     go_ret2
     exact ⟨by first | rfl | (simp; done) | (simp [*]; done), by repeat (first | exact Drawn0.refl _ | apply Drawn0.step)⟩
    ·rw [if_neg c6] at H
     have c6b0 : (t438 == 16406) = false := beq_eq_false_iff_ne.mpr c6
     have c6b1 : (t438 != 16406) = true := bne_iff_ne.mpr c6
     by_cases c7 : t438 < 32768
     ·rw [if_pos c7] at H
      have c7b0 : decide (t438 < 32768) = true := decide_eq_true c7
      clear c7
      simp only [Option.some.injEq, Prod.mk.injEq] at H
      obtain ⟨rfl, rfl⟩ := H
      go_enter Try.func12, Try.ntmps12
      go_wp2_with (first | ((with_reducible refine gate_callee (f := 61) rfl ?_); refine goesM_ (some 6) rfl rfl Try.func61 #[.int .i64 a0] ?_; (with_reducible refine (spec_Addr.calls a0 t438 _ A2.out).mono ?_); rintro e w' ⟨rfl, ⟨nd, rfl⟩⟩; refine ⟨_, rfl, ?_⟩))
      go_ret2
      exact ⟨by first | rfl | (simp; done) | (simp [*]; done), by repeat (first | exact Drawn0.refl _ | apply Drawn0.step)⟩
     ·rw [if_neg c7] at H
      have c7b0 : decide (t438 < 32768) = false := decide_eq_false c7
      clear c7
      by_cases c8 : t438 < 49152
      ·rw [if_pos c8] at H
       have c8b0 : decide (t438 < 49152) = true := decide_eq_true c8
       clear c8
       simp only [Option.some.injEq, Prod.mk.injEq] at H
       obtain ⟨rfl, rfl⟩ := H
       go_enter Try.func12, Try.ntmps12
       go_wp2_with (first | ((with_reducible refine gate_callee (f := 61) rfl ?_); refine goesM_ (some 6) rfl rfl Try.func61 #[.int .i64 a0] ?_; (with_reducible refine (spec_Addr.calls a0 t438 _ A2.out).mono ?_); rintro e w' ⟨rfl, ⟨nd, rfl⟩⟩; refine ⟨_, rfl, ?_⟩))
       go_ret2
       exact ⟨by first | rfl | (simp; done) | (simp [*]; done), by repeat (first | exact Drawn0.refl _ | apply Drawn0.step)⟩
      ·rw [if_neg c8] at H
       have c8b0 : decide (t438 < 49152) = false := decide_eq_false c8
       clear c8
       simp only [Option.some.injEq, Prod.mk.injEq] at H
       obtain ⟨rfl, rfl⟩ := H
       go_enter Try.func12, Try.ntmps12
       go_wp2_with (first | ((with_reducible refine gate_callee (f := 61) rfl ?_); refine goesM_ (some 6) rfl rfl Try.func61 #[.int .i64 a0] ?_; (with_reducible refine (spec_Addr.calls a0 t438 _ A2.out).mono ?_); rintro e w' ⟨rfl, ⟨nd, rfl⟩⟩; refine ⟨_, rfl, ?_⟩))
       go_ret2
       exact ⟨by first | rfl | (simp; done) | (simp [*]; done), by repeat (first | exact Drawn0.refl _ | apply Drawn0.step)⟩

/-! ### spec_l6Peek: function 64 -/
def spec_l6Peek.f (l0_0 : List (List Int)) (l1_0 : List Int) (a1_1 : Int) (a2 : Int) : Option (Int) := (spec_Region.f a2).bind fun bt441 => (if bt441.1 = 1 then (if 0 ≤ bt441.2 then (if bt441.2 < (l1_0.length : Int) then (some (rd l1_0 bt441.2)) else (none)) else (none)) else (if bt441.1 = 5 then (if 0 ≤ a1_1 then (if a1_1 < (l0_0.length : Int) then (if 0 ≤ bt441.2 then (if bt441.2 < ((rd_L2 l0_0 a1_1).length : Int) then (some (rd (rd_L2 l0_0 a1_1) bt441.2)) else (none)) else (none)) else (none)) else (none)) else (if bt441.1 = 6 then (if 0 ≤ (wrap64 ((l0_0.length : Int) - 1)) then (if (wrap64 ((l0_0.length : Int) - 1)) < (l0_0.length : Int) then (if 0 ≤ bt441.2 then (if bt441.2 < ((rd_L2 l0_0 (wrap64 ((l0_0.length : Int) - 1))).length : Int) then (some (rd (rd_L2 l0_0 (wrap64 ((l0_0.length : Int) - 1))) bt441.2)) else (none)) else (none)) else (none)) else (none)) else (some 0))))
set_option maxHeartbeats 8000000 in
set_option maxRecDepth 100000 in
theorem spec_l6Peek.calls (A0_0 : Option Addr) (c0_0 : Nat) (l0_0 : List (List Int)) (A1_0 : Option Addr) (c1_0 : Nat) (l1_0 : List Int) (a1_1 : Int) (a2 : Int) (r : Int) (w : World) (hr0_0 : Kd.C (Kd.slice 3 (Kd.int .i64)) w A0_0 l0_0.length l0_0) (hc0_0 : l0_0.length ≤ c0_0) (hr1_0 : Kd.C (Kd.int .i64) w A1_0 l1_0.length l1_0) (hc1_0 : l1_0.length ≤ c1_0) (h : spec_l6Peek.f l0_0 l1_0 a1_1 a2 = some r) :
  Calls Try.prog 64 #[.agg #[.slice A0_0 l0_0.length c0_0], .agg #[.slice A1_0 l1_0.length c1_0, .int .i64 a1_1], .int .i64 a2] w fun e w' => e = .returned (.int .i64 r) ∧ Below w.heap.size w w' := by
 have hu29 := Try.underlying29
 have hu32 := Try.underlying32
 have HR0_0 := Aside0.mk hr0_0
 have HC0_0 := Aside0.mk hc0_0
 clear hr0_0 hc0_0
 have HR1_0 := Aside0.mk hr1_0
 have HC1_0 := Aside0.mk hc1_0
 clear hr1_0 hc1_0
 have HB := Aside0.mk (Below.refl w.heap.size w)
 have H : ((spec_Region.f a2).bind fun bt441 => (if bt441.1 = 1 then (if 0 ≤ bt441.2 then (if bt441.2 < (l1_0.length : Int) then (some (rd l1_0 bt441.2)) else (none)) else (none)) else (if bt441.1 = 5 then (if 0 ≤ a1_1 then (if a1_1 < (l0_0.length : Int) then (if 0 ≤ bt441.2 then (if bt441.2 < ((rd_L2 l0_0 a1_1).length : Int) then (some (rd (rd_L2 l0_0 a1_1) bt441.2)) else (none)) else (none)) else (none)) else (none)) else (if bt441.1 = 6 then (if 0 ≤ (wrap64 ((l0_0.length : Int) - 1)) then (if (wrap64 ((l0_0.length : Int) - 1)) < (l0_0.length : Int) then (if 0 ≤ bt441.2 then (if bt441.2 < ((rd_L2 l0_0 (wrap64 ((l0_0.length : Int) - 1))).length : Int) then (some (rd (rd_L2 l0_0 (wrap64 ((l0_0.length : Int) - 1))) bt441.2)) else (none)) else (none)) else (none)) else (none)) else (some 0))))) = some r := h
 clear h
 replace H := Option.bind_eq_some_iff.mp H
 obtain ⟨⟨t441, t442⟩, A40, H⟩ := H
 replace H : (if t441 = 1 then (if 0 ≤ t442 then (if t442 < (l1_0.length : Int) then (some (rd l1_0 t442)) else (none)) else (none)) else (if t441 = 5 then (if 0 ≤ a1_1 then (if a1_1 < (l0_0.length : Int) then (if 0 ≤ t442 then (if t442 < ((rd_L2 l0_0 a1_1).length : Int) then (some (rd (rd_L2 l0_0 a1_1) t442)) else (none)) else (none)) else (none)) else (none)) else (if t441 = 6 then (if 0 ≤ (wrap64 ((l0_0.length : Int) - 1)) then (if (wrap64 ((l0_0.length : Int) - 1)) < (l0_0.length : Int) then (if 0 ≤ t442 then (if t442 < ((rd_L2 l0_0 (wrap64 ((l0_0.length : Int) - 1))).length : Int) then (some (rd (rd_L2 l0_0 (wrap64 ((l0_0.length : Int) - 1))) t442)) else (none)) else (none)) else (none)) else (none)) else (some 0)))) = some r := H
 have A4 := Aside0.mk A40
 clear A40
 by_cases c5 : t441 = 1
 ·rw [if_pos c5] at H
  have c5b0 : (t441 == 1) = true := beq_iff_eq.mpr c5
  have c5b1 : (t441 != 1) = false := bne_eq_false_iff_eq.mpr c5
  clear c5
  by_cases c6 : 0 ≤ t442
  ·rw [if_pos c6] at H
   have c6b0 : decide (0 ≤ t442) = true := decide_eq_true c6
   clear c6
   by_cases c7 : t442 < (l1_0.length : Int)
   ·rw [if_pos c7] at H
    have c7b0 : decide (t442 < (l1_0.length : Int)) = true := decide_eq_true c7
    clear c7
    obtain rfl := Option.some.inj H
    go_enter Try.func64, Try.ntmps64
    go_wp2_with (first | ((with_reducible refine gate_dst (N := 3) rfl ?_); refine bx (N := 3) (cs := #[.slice A0_0 l0_0.length c0_0]) (t := 29) ?_; intro gb439 hg w8 hbox hb; have n0_ := Aside0.mk (below_step (bw HB.out) hb); have n1_ := Aside0.mk (hbox); have n2_ := Aside0.mk ((gs hg (bw HB.out))); have n3_ := Aside0.mk ((gs hg (bw HB.out))); clear HB; have HB := n0_; have BK439 := n1_; have GW439 := n2_; have GE439 := n3_; clear n0_ n1_ n2_ n3_; clear hb hbox hg) | ((with_reducible refine gate_dst (N := 4) rfl ?_); refine bx (N := 4) (cs := #[.slice A1_0 l1_0.length c1_0, .int .i64 a1_1]) (t := 32) ?_; intro gb440 hg w9 hbox hb; have n0_ := Aside0.mk (blk_below (g := gb439) (o := .cells #[.slice A0_0 l0_0.length c0_0] 29 (0, 0)) (kb BK439.out) hb); have n1_ := Aside0.mk (below_step (bw HB.out) hb); have n2_ := Aside0.mk (hbox); have n3_ := Aside0.mk ((gs hg (bw HB.out))); have n4_ := Aside0.mk ((gs hg (bw HB.out))); have n5_ := Aside0.mk ((ga hg BK439.out)); have n6_ := Aside0.mk ((gc hg BK439.out)); clear BK439; clear HB; have BK439 := n0_; have HB := n1_; have BK440 := n2_; have GW440 := n3_; have GE440 := n4_; have NB439_440 := n5_; have NB440_439 := n6_; clear n0_ n1_ n2_ n3_ n4_ n5_ n6_; clear hb hbox hg) | ((with_reducible refine gate_callee (f := 12) rfl ?_); refine goesM_ (some 11) rfl rfl Try.func12 #[.int .i64 a2] ?_; (with_reducible refine (spec_Region.calls a2 t441 t442 _ A4.out).mono ?_); rintro e w' ⟨rfl, ⟨nd, rfl⟩⟩; refine ⟨_, rfl, ?_⟩; have hnb10 := NB440_439.out; have hnc10 := NB439_440.out; have hcz11_0 : w9.cell? ⟨gb440, 0, none⟩ = some (.slice A1_0 l1_0.length c1_0) := cl BK440 0; have hcz11_1 : w9.cell? ⟨gb440, 1, none⟩ = some (.int .i64 a1_1) := cl BK440 1; have hfz11_0 := blk_frozen BK440.out 0; have hfz11_1 := blk_frozen BK440.out 1; have p443 : 0 ≤ (t442 : Int) := dt; have q443 : t442 < (l1_0.length : Int) := dt; obtain ⟨ad443, e443, hx443_0⟩ := Kd.at_int HR1_0.out t442 p443 q443; cases e443; replace hx443_0 := (HB.out.cell (World.block_lt_of_cell? w _ hx443_0)).trans hx443_0; replace p443 := eq_true p443; replace q443 := eq_true q443))
    go_ret
    exact ⟨rt, bw HB.out⟩
   ·rw [if_neg c7] at H
    exact absurd H (by simp)
  ·rw [if_neg c6] at H
   exact absurd H (by simp)
 ·rw [if_neg c5] at H
  have c5b0 : (t441 == 1) = false := beq_eq_false_iff_ne.mpr c5
  have c5b1 : (t441 != 1) = true := bne_iff_ne.mpr c5
  by_cases c12 : t441 = 5
  ·rw [if_pos c12] at H
   have c12b0 : (t441 == 5) = true := beq_iff_eq.mpr c12
   have c12b1 : (t441 != 5) = false := bne_eq_false_iff_eq.mpr c12
   clear c12
   by_cases c13 : 0 ≤ a1_1
   ·rw [if_pos c13] at H
    have c13b0 : decide (0 ≤ a1_1) = true := decide_eq_true c13
    clear c13
    by_cases c14 : a1_1 < (l0_0.length : Int)
    ·rw [if_pos c14] at H
     have c14b0 : decide (a1_1 < (l0_0.length : Int)) = true := decide_eq_true c14
     clear c14
     by_cases c15 : 0 ≤ t442
     ·rw [if_pos c15] at H
      have c15b0 : decide (0 ≤ t442) = true := decide_eq_true c15
      clear c15
      by_cases c16 : t442 < ((rd_L2 l0_0 a1_1).length : Int)
      ·rw [if_pos c16] at H
       have c16b0 : decide (t442 < ((rd_L2 l0_0 a1_1).length : Int)) = true := decide_eq_true c16
       clear c16
       obtain rfl := Option.some.inj H
       go_enter Try.func64, Try.ntmps64
       go_wp2_with (first | ((with_reducible refine gate_dst (N := 3) rfl ?_); refine bx (N := 3) (cs := #[.slice A0_0 l0_0.length c0_0]) (t := 29) ?_; intro gb439 hg w17 hbox hb; have n0_ := Aside0.mk (below_step (bw HB.out) hb); have n1_ := Aside0.mk (hbox); have n2_ := Aside0.mk ((gs hg (bw HB.out))); have n3_ := Aside0.mk ((gs hg (bw HB.out))); clear HB; have HB := n0_; have BK439 := n1_; have GW439 := n2_; have GE439 := n3_; clear n0_ n1_ n2_ n3_; clear hb hbox hg) | ((with_reducible refine gate_dst (N := 4) rfl ?_); refine bx (N := 4) (cs := #[.slice A1_0 l1_0.length c1_0, .int .i64 a1_1]) (t := 32) ?_; intro gb440 hg w18 hbox hb; have n0_ := Aside0.mk (blk_below (g := gb439) (o := .cells #[.slice A0_0 l0_0.length c0_0] 29 (0, 0)) (kb BK439.out) hb); have n1_ := Aside0.mk (below_step (bw HB.out) hb); have n2_ := Aside0.mk (hbox); have n3_ := Aside0.mk ((gs hg (bw HB.out))); have n4_ := Aside0.mk ((gs hg (bw HB.out))); have n5_ := Aside0.mk ((ga hg BK439.out)); have n6_ := Aside0.mk ((gc hg BK439.out)); clear BK439; clear HB; have BK439 := n0_; have HB := n1_; have BK440 := n2_; have GW440 := n3_; have GE440 := n4_; have NB439_440 := n5_; have NB440_439 := n6_; clear n0_ n1_ n2_ n3_ n4_ n5_ n6_; clear hb hbox hg) | ((with_reducible refine gate_callee (f := 12) rfl ?_); refine goesM_ (some 11) rfl rfl Try.func12 #[.int .i64 a2] ?_; (with_reducible refine (spec_Region.calls a2 t441 t442 _ A4.out).mono ?_); rintro e w' ⟨rfl, ⟨nd, rfl⟩⟩; refine ⟨_, rfl, ?_⟩; have hnb19 := NB439_440.out; have hnc19 := NB440_439.out; have hcz20_0 : w18.cell? ⟨gb439, 0, none⟩ = some (.slice A0_0 l0_0.length c0_0) := cl BK439 0; have hfz20_0 := blk_frozen BK439.out 0; have hcz21_0 : w18.cell? ⟨gb440, 0, none⟩ = some (.slice A1_0 l1_0.length c1_0) := cl BK440 0; have hcz21_1 : w18.cell? ⟨gb440, 1, none⟩ = some (.int .i64 a1_1) := cl BK440 1; have hfz21_0 := blk_frozen BK440.out 0; have hfz21_1 := blk_frozen BK440.out 1; have p444 : 0 ≤ (a1_1 : Int) := dt; have q444 : a1_1 < (l0_0.length : Int) := dt; obtain ⟨ad444, A444_0, c444_0, e444, hx444_0, hl444_0, hi444_0⟩ := at_L2 HR0_0.out a1_1 p444 q444; cases e444; replace hx444_0 := (HB.out.cell (World.block_lt_of_cell? w _ hx444_0)).trans hx444_0; have HR444_0 := Aside0.mk hi444_0; have HC444_0 := Aside0.mk hl444_0; clear hi444_0 hl444_0; replace p444 := eq_true p444; replace q444 := eq_true q444; have p445 : 0 ≤ (t442 : Int) := dt; have q445 : t442 < ((rd_L2 l0_0 a1_1).length : Int) := dt; obtain ⟨ad445, e445, hx445_0⟩ := Kd.at_int HR444_0.out t442 p445 q445; cases e445; replace hx445_0 := (HB.out.cell (World.block_lt_of_cell? w _ hx445_0)).trans hx445_0; replace p445 := eq_true p445; replace q445 := eq_true q445))
       go_ret
       exact ⟨rt, bw HB.out⟩
      ·rw [if_neg c16] at H
       exact absurd H (by simp)
     ·rw [if_neg c15] at H
      exact absurd H (by simp)
    ·rw [if_neg c14] at H
     exact absurd H (by simp)
   ·rw [if_neg c13] at H
    exact absurd H (by simp)
  ·rw [if_neg c12] at H
   have c12b0 : (t441 == 5) = false := beq_eq_false_iff_ne.mpr c12
   have c12b1 : (t441 != 5) = true := bne_iff_ne.mpr c12
   by_cases c22 : t441 = 6
   ·rw [if_pos c22] at H
    have c22b0 : (t441 == 6) = true := beq_iff_eq.mpr c22
    have c22b1 : (t441 != 6) = false := bne_eq_false_iff_eq.mpr c22
    clear c22
    obtain ⟨ji23, hji23⟩ : ∃ j_ : Int, (wrap64 ((l0_0.length : Int) - 1)) = j_ := ⟨_, rfl⟩
    replace H : (if 0 ≤ (ji23) then (if (ji23) < (l0_0.length : Int) then (if 0 ≤ t442 then (if t442 < ((rd_L2 l0_0 (ji23)).length : Int) then (some (rd (rd_L2 l0_0 (ji23)) t442)) else (none)) else (none)) else (none)) else (none)) = some r := by first | (rw [hji23] at H; exact H) | (simp only [hji23] at H ⊢; exact H)
    (try rw [hji23] at A4)
    have hji23w : (IntKind.i64.wrap ((l0_0.length : Int) - 1)) = ji23 := (i64_w _).trans hji23
    by_cases c24 : 0 ≤ (ji23)
    ·rw [if_pos c24] at H
     have c24b0 : decide (0 ≤ (ji23)) = true := decide_eq_true c24
     clear c24
     by_cases c25 : (ji23) < (l0_0.length : Int)
     ·rw [if_pos c25] at H
      have c25b0 : decide ((ji23) < (l0_0.length : Int)) = true := decide_eq_true c25
      clear c25
      by_cases c26 : 0 ≤ t442
      ·rw [if_pos c26] at H
       have c26b0 : decide (0 ≤ t442) = true := decide_eq_true c26
       clear c26
       by_cases c27 : t442 < ((rd_L2 l0_0 (ji23)).length : Int)
       ·rw [if_pos c27] at H
        have c27b0 : decide (t442 < ((rd_L2 l0_0 (ji23)).length : Int)) = true := decide_eq_true c27
        clear c27
        obtain rfl := Option.some.inj H
        go_enter Try.func64, Try.ntmps64
        go_wp2_with (first | ((with_reducible refine gate_dst (N := 3) rfl ?_); refine bx (N := 3) (cs := #[.slice A0_0 l0_0.length c0_0]) (t := 29) ?_; intro gb439 hg w28 hbox hb; have n0_ := Aside0.mk (below_step (bw HB.out) hb); have n1_ := Aside0.mk (hbox); have n2_ := Aside0.mk ((gs hg (bw HB.out))); have n3_ := Aside0.mk ((gs hg (bw HB.out))); clear HB; have HB := n0_; have BK439 := n1_; have GW439 := n2_; have GE439 := n3_; clear n0_ n1_ n2_ n3_; clear hb hbox hg) | ((with_reducible refine gate_dst (N := 4) rfl ?_); refine bx (N := 4) (cs := #[.slice A1_0 l1_0.length c1_0, .int .i64 a1_1]) (t := 32) ?_; intro gb440 hg w29 hbox hb; have n0_ := Aside0.mk (blk_below (g := gb439) (o := .cells #[.slice A0_0 l0_0.length c0_0] 29 (0, 0)) (kb BK439.out) hb); have n1_ := Aside0.mk (below_step (bw HB.out) hb); have n2_ := Aside0.mk (hbox); have n3_ := Aside0.mk ((gs hg (bw HB.out))); have n4_ := Aside0.mk ((gs hg (bw HB.out))); have n5_ := Aside0.mk ((ga hg BK439.out)); have n6_ := Aside0.mk ((gc hg BK439.out)); clear BK439; clear HB; have BK439 := n0_; have HB := n1_; have BK440 := n2_; have GW440 := n3_; have GE440 := n4_; have NB439_440 := n5_; have NB440_439 := n6_; clear n0_ n1_ n2_ n3_ n4_ n5_ n6_; clear hb hbox hg) | ((with_reducible refine gate_callee (f := 12) rfl ?_); refine goesM_ (some 11) rfl rfl Try.func12 #[.int .i64 a2] ?_; (with_reducible refine (spec_Region.calls a2 t441 t442 _ A4.out).mono ?_); rintro e w' ⟨rfl, ⟨nd, rfl⟩⟩; refine ⟨_, rfl, ?_⟩; have hnb30 := NB439_440.out; have hnc30 := NB440_439.out; have hcz31_0 : w29.cell? ⟨gb439, 0, none⟩ = some (.slice A0_0 l0_0.length c0_0) := cl BK439 0; have hfz31_0 := blk_frozen BK439.out 0; have p446 : 0 ≤ ((ji23) : Int) := dt; have q446 : (ji23) < (l0_0.length : Int) := dt; obtain ⟨ad446, A446_0, c446_0, e446, hx446_0, hl446_0, hi446_0⟩ := at_L2 HR0_0.out (ji23) p446 q446; cases e446; replace hx446_0 := (HB.out.cell (World.block_lt_of_cell? w _ hx446_0)).trans hx446_0; have HR446_0 := Aside0.mk hi446_0; have HC446_0 := Aside0.mk hl446_0; clear hi446_0 hl446_0; replace p446 := eq_true p446; replace q446 := eq_true q446; have p447 : 0 ≤ (t442 : Int) := dt; have q447 : t442 < ((rd_L2 l0_0 (ji23)).length : Int) := dt; obtain ⟨ad447, e447, hx447_0⟩ := Kd.at_int HR446_0.out t442 p447 q447; cases e447; replace hx447_0 := (HB.out.cell (World.block_lt_of_cell? w _ hx447_0)).trans hx447_0; replace p447 := eq_true p447; replace q447 := eq_true q447))
        go_ret
        exact ⟨by first | rfl | (simp [errW_none, errW_some] <;> rfl) | (simp only [← hji23]; first | rfl | (simp [errW_none, errW_some] <;> rfl)) | (simp [*, errW_none, errW_some] <;> rfl), bw HB.out⟩
       ·rw [if_neg c27] at H
        exact absurd H (by simp)
      ·rw [if_neg c26] at H
       exact absurd H (by simp)
     ·rw [if_neg c25] at H
      exact absurd H (by simp)
    ·rw [if_neg c24] at H
     exact absurd H (by simp)
   ·rw [if_neg c22] at H
    have c22b0 : (t441 == 6) = false := beq_eq_false_iff_ne.mpr c22
    have c22b1 : (t441 != 6) = true := bne_iff_ne.mpr c22
    obtain rfl := Option.some.inj H
    go_enter Try.func64, Try.ntmps64
    go_wp2_with (first | ((with_reducible refine gate_dst (N := 3) rfl ?_); refine bx (N := 3) (cs := #[.slice A0_0 l0_0.length c0_0]) (t := 29) ?_; intro gb439 hg w32 hbox hb; have n0_ := Aside0.mk (below_step (bw HB.out) hb); have n1_ := Aside0.mk (hbox); have n2_ := Aside0.mk ((gs hg (bw HB.out))); have n3_ := Aside0.mk ((gs hg (bw HB.out))); clear HB; have HB := n0_; have BK439 := n1_; have GW439 := n2_; have GE439 := n3_; clear n0_ n1_ n2_ n3_; clear hb hbox hg) | ((with_reducible refine gate_dst (N := 4) rfl ?_); refine bx (N := 4) (cs := #[.slice A1_0 l1_0.length c1_0, .int .i64 a1_1]) (t := 32) ?_; intro gb440 hg w33 hbox hb; have n0_ := Aside0.mk (blk_below (g := gb439) (o := .cells #[.slice A0_0 l0_0.length c0_0] 29 (0, 0)) (kb BK439.out) hb); have n1_ := Aside0.mk (below_step (bw HB.out) hb); have n2_ := Aside0.mk (hbox); have n3_ := Aside0.mk ((gs hg (bw HB.out))); have n4_ := Aside0.mk ((gs hg (bw HB.out))); have n5_ := Aside0.mk ((ga hg BK439.out)); have n6_ := Aside0.mk ((gc hg BK439.out)); clear BK439; clear HB; have BK439 := n0_; have HB := n1_; have BK440 := n2_; have GW440 := n3_; have GE440 := n4_; have NB439_440 := n5_; have NB440_439 := n6_; clear n0_ n1_ n2_ n3_ n4_ n5_ n6_; clear hb hbox hg) | ((with_reducible refine gate_callee (f := 12) rfl ?_); refine goesM_ (some 11) rfl rfl Try.func12 #[.int .i64 a2] ?_; (with_reducible refine (spec_Region.calls a2 t441 t442 _ A4.out).mono ?_); rintro e w' ⟨rfl, ⟨nd, rfl⟩⟩; refine ⟨_, rfl, ?_⟩))
    go_ret
    exact ⟨rt, bw HB.out⟩

/-! ### spec_Peek: function 15 -/
def spec_Peek.f (k : Nat) (l0_0 : List (List Int)) (l1_0 : List Int) (a1_1 : Int) (a2 : Int) : Option (Int) := (spec_MemOk.f k l0_0 l1_0 a1_1).bind fun t450 => (if t450 = true then ((spec_l6Peek.f l0_0 l1_0 a1_1 a2).bind fun t451 => (some t451)) else (some 0))
set_option maxHeartbeats 8000000 in
set_option maxRecDepth 100000 in
theorem spec_Peek.calls (k : Nat) (A0_0 : Option Addr) (c0_0 : Nat) (l0_0 : List (List Int)) (A1_0 : Option Addr) (c1_0 : Nat) (l1_0 : List Int) (a1_1 : Int) (a2 : Int) (r : Int) (w : World) (hr0_0 : Kd.C (Kd.slice 3 (Kd.int .i64)) w A0_0 l0_0.length l0_0) (hc0_0 : l0_0.length ≤ c0_0) (hr1_0 : Kd.C (Kd.int .i64) w A1_0 l1_0.length l1_0) (hc1_0 : l1_0.length ≤ c1_0) (h : spec_Peek.f k l0_0 l1_0 a1_1 a2 = some r) :
  Calls Try.prog 15 #[.agg #[.slice A0_0 l0_0.length c0_0], .agg #[.slice A1_0 l1_0.length c1_0, .int .i64 a1_1], .int .i64 a2] w fun e w' => e = .returned (.int .i64 r) ∧ Below w.heap.size w w' := by
 have hu29 := Try.underlying29
 have hu32 := Try.underlying32
 have HR0_0 := Aside0.mk hr0_0
 have HC0_0 := Aside0.mk hc0_0
 clear hr0_0 hc0_0
 have HR1_0 := Aside0.mk hr1_0
 have HC1_0 := Aside0.mk hc1_0
 clear hr1_0 hc1_0
 have HB := Aside0.mk (Below.refl w.heap.size w)
 have H : ((spec_MemOk.f k l0_0 l1_0 a1_1).bind fun t450 => (if t450 = true then ((spec_l6Peek.f l0_0 l1_0 a1_1 a2).bind fun t451 => (some t451)) else (some 0))) = some r := h
 clear h
 replace H := Option.bind_eq_some_iff.mp H
 obtain ⟨t450, A40, H⟩ := H
 replace H : (if t450 = true then ((spec_l6Peek.f l0_0 l1_0 a1_1 a2).bind fun t451 => (some t451)) else (some 0)) = some r := H
 have A4 := Aside0.mk A40
 clear A40
 by_cases c5 : t450 = true
 ·subst c5
  have H1 : ((spec_l6Peek.f l0_0 l1_0 a1_1 a2).bind fun t451 => (some t451)) = some r := by rw [if_pos rfl] at H; exact H
  clear H
  have H := H1
  clear H1
  replace H := Option.bind_eq_some_iff.mp H
  obtain ⟨t451, A60, H⟩ := H
  replace H : (some t451) = some r := H
  have A6 := Aside0.mk A60
  clear A60
  obtain rfl := Option.some.inj H
  go_enter Try.func15, Try.ntmps15
  go_wp2_with (first | ((with_reducible refine gate_dst (N := 3) rfl ?_); refine bx (N := 3) (cs := #[.slice A0_0 l0_0.length c0_0]) (t := 29) ?_; intro gb448 hg w7 hbox hb; have n0_ := Aside0.mk (below_step (bw HB.out) hb); have n1_ := Aside0.mk (hbox); have n2_ := Aside0.mk ((gs hg (bw HB.out))); have n3_ := Aside0.mk ((gs hg (bw HB.out))); clear HB; have HB := n0_; have BK448 := n1_; have GW448 := n2_; have GE448 := n3_; clear n0_ n1_ n2_ n3_; clear hb hbox hg) | ((with_reducible refine gate_dst (N := 4) rfl ?_); refine bx (N := 4) (cs := #[.slice A1_0 l1_0.length c1_0, .int .i64 a1_1]) (t := 32) ?_; intro gb449 hg w8 hbox hb; have n0_ := Aside0.mk (blk_below (g := gb448) (o := .cells #[.slice A0_0 l0_0.length c0_0] 29 (0, 0)) (kb BK448.out) hb); have n1_ := Aside0.mk (below_step (bw HB.out) hb); have n2_ := Aside0.mk (hbox); have n3_ := Aside0.mk ((gs hg (bw HB.out))); have n4_ := Aside0.mk ((gs hg (bw HB.out))); have n5_ := Aside0.mk ((ga hg BK448.out)); have n6_ := Aside0.mk ((gc hg BK448.out)); clear BK448; clear HB; have BK448 := n0_; have HB := n1_; have BK449 := n2_; have GW449 := n3_; have GE449 := n4_; have NB448_449 := n5_; have NB449_448 := n6_; clear n0_ n1_ n2_ n3_ n4_ n5_ n6_; clear hb hbox hg; have hnb9 := NB448_449.out; have hnc9 := NB449_448.out; have hcz10_0 : w8.cell? ⟨gb448, 0, none⟩ = some (.slice A0_0 l0_0.length c0_0) := cl BK448 0; have hfz10_0 := blk_frozen BK448.out 0; have hcz11_0 : w8.cell? ⟨gb449, 0, none⟩ = some (.slice A1_0 l1_0.length c1_0) := cl BK449 0; have hcz11_1 : w8.cell? ⟨gb449, 1, none⟩ = some (.int .i64 a1_1) := cl BK449 1; have hfz11_0 := blk_frozen BK449.out 0; have hfz11_1 := blk_frozen BK449.out 1) | ((with_reducible refine gate_callee (f := 33) rfl ?_); refine goesM_ (some 9) rfl rfl Try.func33 #[.agg #[.slice A0_0 l0_0.length c0_0], .agg #[.slice A1_0 l1_0.length c1_0, .int .i64 a1_1]] ?_; (with_reducible refine (spec_MemOk.calls k _ _ l0_0 _ _ l1_0 a1_1 true _ ?side1 ?side2 ?side3 ?side4 A4.out).mono ?_); (case side1 => exact kc (Kd.C_below HR0_0.out HB.out)); (case side2 => exact HC0_0.out); (case side3 => exact kc (Kd.C_below HR1_0.out HB.out)); (case side4 => exact HC1_0.out); rintro e w12 ⟨rfl, hb⟩; refine ⟨_, rfl, ?_⟩; have n0_ := Aside0.mk (blk_below (g := gb448) (o := .cells #[.slice A0_0 l0_0.length c0_0] 29 (0, 0)) (kb BK448.out) hb); have n1_ := Aside0.mk (blk_below (g := gb449) (o := .cells #[.slice A1_0 l1_0.length c1_0, .int .i64 a1_1] 32 (0, 0)) (kb BK449.out) hb); have n2_ := Aside0.mk (below_step (bw HB.out) hb); clear BK448; clear BK449; clear HB; have BK448 := n0_; have BK449 := n1_; have HB := n2_; clear n0_ n1_ n2_; (try clear hb); (try clear hb2); (try clear hk); (try clear hi); have hcz13_0 : w12.cell? ⟨gb448, 0, none⟩ = some (.slice A0_0 l0_0.length c0_0) := cl BK448 0; have hfz13_0 := blk_frozen BK448.out 0; have hcz14_0 : w12.cell? ⟨gb449, 0, none⟩ = some (.slice A1_0 l1_0.length c1_0) := cl BK449 0; have hcz14_1 : w12.cell? ⟨gb449, 1, none⟩ = some (.int .i64 a1_1) := cl BK449 1; have hfz14_0 := blk_frozen BK449.out 0; have hfz14_1 := blk_frozen BK449.out 1) | ((with_reducible refine gate_callee (f := 64) rfl ?_); refine goesM_ (some 14) rfl rfl Try.func64 #[.agg #[.slice A0_0 l0_0.length c0_0], .agg #[.slice A1_0 l1_0.length c1_0, .int .i64 a1_1], .int .i64 a2] ?_; (with_reducible refine (spec_l6Peek.calls _ _ l0_0 _ _ l1_0 a1_1 a2 t451 _ ?side1 ?side2 ?side3 ?side4 A6.out).mono ?_); (case side1 => exact kc (Kd.C_below HR0_0.out HB.out)); (case side2 => exact HC0_0.out); (case side3 => exact kc (Kd.C_below HR1_0.out HB.out)); (case side4 => exact HC1_0.out); rintro e w15 ⟨rfl, hb⟩; refine ⟨_, rfl, ?_⟩; have n0_ := Aside0.mk (blk_below (g := gb448) (o := .cells #[.slice A0_0 l0_0.length c0_0] 29 (0, 0)) (kb BK448.out) hb); have n1_ := Aside0.mk (blk_below (g := gb449) (o := .cells #[.slice A1_0 l1_0.length c1_0, .int .i64 a1_1] 32 (0, 0)) (kb BK449.out) hb); have n2_ := Aside0.mk (below_step (bw HB.out) hb); clear BK448; clear BK449; clear HB; have BK448 := n0_; have BK449 := n1_; have HB := n2_; clear n0_ n1_ n2_; (try clear hb); (try clear hb2); (try clear hk); (try clear hi)))
  go_ret
  exact ⟨rt, bw HB.out⟩
 ·replace c5 := Bool.eq_false_iff.mpr c5
  subst c5
  have H1 : (some 0) = some r := by rw [if_neg (show ¬ (false = true) by decide)] at H; exact H
  clear H
  have H := H1
  clear H1
  obtain rfl := Option.some.inj H
  go_enter Try.func15, Try.ntmps15
  go_wp2_with (first | ((with_reducible refine gate_dst (N := 3) rfl ?_); refine bx (N := 3) (cs := #[.slice A0_0 l0_0.length c0_0]) (t := 29) ?_; intro gb448 hg w16 hbox hb; have n0_ := Aside0.mk (below_step (bw HB.out) hb); have n1_ := Aside0.mk (hbox); have n2_ := Aside0.mk ((gs hg (bw HB.out))); have n3_ := Aside0.mk ((gs hg (bw HB.out))); clear HB; have HB := n0_; have BK448 := n1_; have GW448 := n2_; have GE448 := n3_; clear n0_ n1_ n2_ n3_; clear hb hbox hg) | ((with_reducible refine gate_dst (N := 4) rfl ?_); refine bx (N := 4) (cs := #[.slice A1_0 l1_0.length c1_0, .int .i64 a1_1]) (t := 32) ?_; intro gb449 hg w17 hbox hb; have n0_ := Aside0.mk (blk_below (g := gb448) (o := .cells #[.slice A0_0 l0_0.length c0_0] 29 (0, 0)) (kb BK448.out) hb); have n1_ := Aside0.mk (below_step (bw HB.out) hb); have n2_ := Aside0.mk (hbox); have n3_ := Aside0.mk ((gs hg (bw HB.out))); have n4_ := Aside0.mk ((gs hg (bw HB.out))); have n5_ := Aside0.mk ((ga hg BK448.out)); have n6_ := Aside0.mk ((gc hg BK448.out)); clear BK448; clear HB; have BK448 := n0_; have HB := n1_; have BK449 := n2_; have GW449 := n3_; have GE449 := n4_; have NB448_449 := n5_; have NB449_448 := n6_; clear n0_ n1_ n2_ n3_ n4_ n5_ n6_; clear hb hbox hg; have hnb18 := NB448_449.out; have hnc18 := NB449_448.out; have hcz19_0 : w17.cell? ⟨gb448, 0, none⟩ = some (.slice A0_0 l0_0.length c0_0) := cl BK448 0; have hfz19_0 := blk_frozen BK448.out 0; have hcz20_0 : w17.cell? ⟨gb449, 0, none⟩ = some (.slice A1_0 l1_0.length c1_0) := cl BK449 0; have hcz20_1 : w17.cell? ⟨gb449, 1, none⟩ = some (.int .i64 a1_1) := cl BK449 1; have hfz20_0 := blk_frozen BK449.out 0; have hfz20_1 := blk_frozen BK449.out 1) | ((with_reducible refine gate_callee (f := 33) rfl ?_); refine goesM_ (some 9) rfl rfl Try.func33 #[.agg #[.slice A0_0 l0_0.length c0_0], .agg #[.slice A1_0 l1_0.length c1_0, .int .i64 a1_1]] ?_; (with_reducible refine (spec_MemOk.calls k _ _ l0_0 _ _ l1_0 a1_1 false _ ?side1 ?side2 ?side3 ?side4 A4.out).mono ?_); (case side1 => exact kc (Kd.C_below HR0_0.out HB.out)); (case side2 => exact HC0_0.out); (case side3 => exact kc (Kd.C_below HR1_0.out HB.out)); (case side4 => exact HC1_0.out); rintro e w21 ⟨rfl, hb⟩; refine ⟨_, rfl, ?_⟩; have n0_ := Aside0.mk (blk_below (g := gb448) (o := .cells #[.slice A0_0 l0_0.length c0_0] 29 (0, 0)) (kb BK448.out) hb); have n1_ := Aside0.mk (blk_below (g := gb449) (o := .cells #[.slice A1_0 l1_0.length c1_0, .int .i64 a1_1] 32 (0, 0)) (kb BK449.out) hb); have n2_ := Aside0.mk (below_step (bw HB.out) hb); clear BK448; clear BK449; clear HB; have BK448 := n0_; have BK449 := n1_; have HB := n2_; clear n0_ n1_ n2_; (try clear hb); (try clear hb2); (try clear hk); (try clear hi)))
  go_ret
  exact ⟨rt, bw HB.out⟩

/-! ### spec_Join: function 82 -/
def spec_Join.f (a0 : Int) (a1 : Int) : Option (Int) := (spec_Byte.f a0).bind fun t452 => ((spec_Byte.f a1).bind fun t453 => (some (wrap64 (t452 + (wrap64 (256 * t453))))))
set_option maxHeartbeats 8000000 in
set_option maxRecDepth 100000 in
theorem spec_Join.calls (a0 : Int) (a1 : Int) (r : Int) (w : World) (h : spec_Join.f a0 a1 = some r) :
  Calls Try.prog 82 #[.int .i64 a0, .int .i64 a1] w fun e w' => e = .returned (.int .i64 r) ∧ Drawn0 w w' := by
 have H : ((spec_Byte.f a0).bind fun t452 => ((spec_Byte.f a1).bind fun t453 => (some (wrap64 (t452 + (wrap64 (256 * t453))))))) = some r := h
 clear h
 replace H := Option.bind_eq_some_iff.mp H
 obtain ⟨t452, A30, H⟩ := H
 replace H : ((spec_Byte.f a1).bind fun t453 => (some (wrap64 (t452 + (wrap64 (256 * t453)))))) = some r := H
 have A3 := Aside0.mk A30
 clear A30
 replace H := Option.bind_eq_some_iff.mp H
 obtain ⟨t453, A40, H⟩ := H
 replace H : (some (wrap64 (t452 + (wrap64 (256 * t453))))) = some r := H
 have A4 := Aside0.mk A40
 clear A40
 obtain rfl := Option.some.inj H
 go_enter Try.func82, Try.ntmps82
 go_wp2_with (first | ((with_reducible refine gate_callee (f := 71) rfl ?_); refine goesM_ (some 6) rfl rfl Try.func71 #[.int .i64 a0] ?_; (with_reducible refine (spec_Byte.calls a0 t452 _ A3.out).mono ?_); rintro e w' ⟨rfl, ⟨nd, rfl⟩⟩; refine ⟨_, rfl, ?_⟩) | ((with_reducible refine gate_callee (f := 71) rfl ?_); refine goesM_ (some 8) rfl rfl Try.func71 #[.int .i64 a1] ?_; (with_reducible refine (spec_Byte.calls a1 t453 _ A4.out).mono ?_); rintro e w' ⟨rfl, ⟨nd, rfl⟩⟩; refine ⟨_, rfl, ?_⟩))
 go_ret
 exact ⟨by first | rfl | (simp; done) | (simp [*]; done), by repeat (first | exact Drawn0.refl _ | apply Drawn0.step)⟩

/-! ### spec_Fetch: function 37 -/
def spec_Fetch.f (k : Nat) (l0_0 : List (List Int)) (l1_0 : List Int) (a1_1 : Int) (a2 : Int) : Option (Int × Int) := (spec_Peek.f k l0_0 l1_0 a1_1 a2).bind fun t457 => ((spec_OpLen.f t457).bind fun t459 => (if t459 = 2 then ((spec_Peek.f k l0_0 l1_0 a1_1 (wrap64 (a2 + 1))).bind fun t460 => (some (t457, t460))) else (if t459 = 3 then ((spec_Peek.f k l0_0 l1_0 a1_1 (wrap64 (a2 + 1))).bind fun t461 => ((spec_Peek.f k l0_0 l1_0 a1_1 (wrap64 (a2 + 2))).bind fun t462 => ((spec_Join.f t461 t462).bind fun t463 => (some (t457, t463))))) else (some (t457, 0)))))
def spec_Fetch.T6 : Bool × List (List Nat × List Nat) := (true, [([], []), ([], []), ([], []), ([2], [2]), ([0, 1, 3], [0, 1, 3]), ([], []), ([], []), ([], []), ([7], [7]), ([5, 6, 8, 4], [5, 6, 8]), ([4, 9, 9], [4, 9]), ([0, 1, 2, 3, 4, 5, 6, 7, 8, 9, 10], []), ([11, 10, 10, 0, 1, 2, 3, 4, 5, 6, 7, 8, 9, 10], [10, 11])])
def spec_Fetch.B6 : List Nat := [0, 0, 0, 4, 15, 0, 0, 0, 128, 511, 1023, 2047, 4095]
theorem spec_Fetch.tab6 : rtab .any (opsOf Try.f37 6) = spec_Fetch.T6 := by kernel_rfl
theorem spec_Fetch.bits6 : waitsOk spec_Fetch.T6.2 spec_Fetch.B6 = true := by kernel_rfl
set_option maxHeartbeats 8000000 in
set_option maxRecDepth 100000 in
theorem spec_Fetch.calls (k : Nat) (A0_0 : Option Addr) (c0_0 : Nat) (l0_0 : List (List Int)) (A1_0 : Option Addr) (c1_0 : Nat) (l1_0 : List Int) (a1_1 : Int) (a2 : Int) (r1 : Int) (r2 : Int) (w : World) (hr0_0 : Kd.C (Kd.slice 3 (Kd.int .i64)) w A0_0 l0_0.length l0_0) (hc0_0 : l0_0.length ≤ c0_0) (hr1_0 : Kd.C (Kd.int .i64) w A1_0 l1_0.length l1_0) (hc1_0 : l1_0.length ≤ c1_0) (h : spec_Fetch.f k l0_0 l1_0 a1_1 a2 = some (r1, r2)) :
  Calls Try.prog 37 #[.agg #[.slice A0_0 l0_0.length c0_0], .agg #[.slice A1_0 l1_0.length c1_0, .int .i64 a1_1], .int .i64 a2] w fun e w' => e = .returned (.agg #[.int .i64 r1, .int .i64 r2]) ∧ Below w.heap.size w w' := by
 have hu29 := Try.underlying29
 have hu32 := Try.underlying32
 have hu51 := Try.underlying51
 have HR0_0 := Aside0.mk hr0_0
 have HC0_0 := Aside0.mk hc0_0
 clear hr0_0 hc0_0
 have HR1_0 := Aside0.mk hr1_0
 have HC1_0 := Aside0.mk hc1_0
 clear hr1_0 hc1_0
 have HB := Aside0.mk (Below.refl w.heap.size w)
 have H : ((spec_Peek.f k l0_0 l1_0 a1_1 a2).bind fun t457 => ((spec_OpLen.f t457).bind fun t459 => (if t459 = 2 then ((spec_Peek.f k l0_0 l1_0 a1_1 (wrap64 (a2 + 1))).bind fun t460 => (some (t457, t460))) else (if t459 = 3 then ((spec_Peek.f k l0_0 l1_0 a1_1 (wrap64 (a2 + 1))).bind fun t461 => ((spec_Peek.f k l0_0 l1_0 a1_1 (wrap64 (a2 + 2))).bind fun t462 => ((spec_Join.f t461 t462).bind fun t463 => (some (t457, t463))))) else (some (t457, 0)))))) = some (r1, r2) := h
 clear h
 replace H := Option.bind_eq_some_iff.mp H
 obtain ⟨t457, A40, H⟩ := H
 replace H : ((spec_OpLen.f t457).bind fun t459 => (if t459 = 2 then ((spec_Peek.f k l0_0 l1_0 a1_1 (wrap64 (a2 + 1))).bind fun t460 => (some (t457, t460))) else (if t459 = 3 then ((spec_Peek.f k l0_0 l1_0 a1_1 (wrap64 (a2 + 1))).bind fun t461 => ((spec_Peek.f k l0_0 l1_0 a1_1 (wrap64 (a2 + 2))).bind fun t462 => ((spec_Join.f t461 t462).bind fun t463 => (some (t457, t463))))) else (some (t457, 0))))) = some (r1, r2) := H
 have A4 := Aside0.mk A40
 clear A40
 replace H := Option.bind_eq_some_iff.mp H
 obtain ⟨t459, A50, H⟩ := H
 replace H : (if t459 = 2 then ((spec_Peek.f k l0_0 l1_0 a1_1 (wrap64 (a2 + 1))).bind fun t460 => (some (t457, t460))) else (if t459 = 3 then ((spec_Peek.f k l0_0 l1_0 a1_1 (wrap64 (a2 + 1))).bind fun t461 => ((spec_Peek.f k l0_0 l1_0 a1_1 (wrap64 (a2 + 2))).bind fun t462 => ((spec_Join.f t461 t462).bind fun t463 => (some (t457, t463))))) else (some (t457, 0)))) = some (r1, r2) := H
 have A5 := Aside0.mk A50
 clear A50
 by_cases c6 : t459 = 2
 ·rw [if_pos c6] at H
  have c6b0 : (t459 == 2) = true := beq_iff_eq.mpr c6
  have c6b1 : (t459 != 2) = false := bne_eq_false_iff_eq.mpr c6
  clear c6
  replace H := Option.bind_eq_some_iff.mp H
  obtain ⟨t460, A70, H⟩ := H
  replace H : (some (t457, t460)) = some (r1, r2) := H
  have A7 := Aside0.mk A70
  clear A70
  simp only [Option.some.injEq, Prod.mk.injEq] at H
  obtain ⟨rfl, rfl⟩ := H
  go_enter Try.func37, Try.ntmps37
  go_wp2_with (first | ((with_reducible refine gate_dst (N := 3) rfl ?_); refine bx (N := 3) (cs := #[.slice A0_0 l0_0.length c0_0]) (t := 29) ?_; intro gb454 hg w8 hbox hb; have n0_ := Aside0.mk (below_step (bw HB.out) hb); have n1_ := Aside0.mk (hbox); have n2_ := Aside0.mk ((gs hg (bw HB.out))); have n3_ := Aside0.mk ((gs hg (bw HB.out))); clear HB; have HB := n0_; have BK454 := n1_; have GW454 := n2_; have GE454 := n3_; clear n0_ n1_ n2_ n3_; clear hb hbox hg) | ((with_reducible refine gate_dst (N := 4) rfl ?_); refine bx (N := 4) (cs := #[.slice A1_0 l1_0.length c1_0, .int .i64 a1_1]) (t := 32) ?_; intro gb455 hg w9 hbox hb; have n0_ := Aside0.mk (blk_below (g := gb454) (o := .cells #[.slice A0_0 l0_0.length c0_0] 29 (0, 0)) (kb BK454.out) hb); have n1_ := Aside0.mk (below_step (bw HB.out) hb); have n2_ := Aside0.mk (hbox); have n3_ := Aside0.mk ((gs hg (bw HB.out))); have n4_ := Aside0.mk ((gs hg (bw HB.out))); have n5_ := Aside0.mk ((ga hg BK454.out)); have n6_ := Aside0.mk ((gc hg BK454.out)); clear BK454; clear HB; have BK454 := n0_; have HB := n1_; have BK455 := n2_; have GW455 := n3_; have GE455 := n4_; have NB454_455 := n5_; have NB455_454 := n6_; clear n0_ n1_ n2_ n3_ n4_ n5_ n6_; clear hb hbox hg) | ((with_reducible refine gate_dst (N := 6) rfl ?_); refine bx (N := 6) (cs := #[.int .i64 0, .int .i64 0]) (t := 51) ?_; intro gb456 hg w10 hbox hb; have n0_ := Aside0.mk (blk_below (g := gb454) (o := .cells #[.slice A0_0 l0_0.length c0_0] 29 (0, 0)) (kb BK454.out) hb); have n1_ := Aside0.mk (blk_below (g := gb455) (o := .cells #[.slice A1_0 l1_0.length c1_0, .int .i64 a1_1] 32 (0, 0)) (kb BK455.out) hb); have n2_ := Aside0.mk (below_step (bw HB.out) hb); have n3_ := Aside0.mk (hbox); have n4_ := Aside0.mk ((gs hg (bw HB.out))); have n5_ := Aside0.mk ((gs hg (bw HB.out))); have n6_ := Aside0.mk ((ga hg BK454.out)); have n7_ := Aside0.mk ((gc hg BK454.out)); have n8_ := Aside0.mk ((ga hg BK455.out)); have n9_ := Aside0.mk ((gc hg BK455.out)); clear BK454; clear BK455; clear HB; have BK454 := n0_; have BK455 := n1_; have HB := n2_; have BK456 := n3_; have GW456 := n4_; have GE456 := n5_; have NB454_456 := n6_; have NB456_454 := n7_; have NB455_456 := n8_; have NB456_455 := n9_; clear n0_ n1_ n2_ n3_ n4_ n5_ n6_ n7_ n8_ n9_; clear hb hbox hg; have hnb11 := NB454_455.out; have hnc11 := NB455_454.out; have hnb12 := NB454_456.out; have hnc12 := NB456_454.out; have hcz13_0 : w10.cell? ⟨gb454, 0, none⟩ = some (.slice A0_0 l0_0.length c0_0) := cl BK454 0; have hfz13_0 := blk_frozen BK454.out 0; have hnb14 := NB455_456.out; have hnc14 := NB456_455.out; have hcz15_0 : w10.cell? ⟨gb455, 0, none⟩ = some (.slice A1_0 l1_0.length c1_0) := cl BK455 0; have hcz15_1 : w10.cell? ⟨gb455, 1, none⟩ = some (.int .i64 a1_1) := cl BK455 1; have hfz15_0 := blk_frozen BK455.out 0; have hfz15_1 := blk_frozen BK455.out 1) | ((with_reducible refine gate_callee (f := 15) rfl ?_); refine goesM_ (some 11) rfl rfl Try.func15 #[.agg #[.slice A0_0 l0_0.length c0_0], .agg #[.slice A1_0 l1_0.length c1_0, .int .i64 a1_1], .int .i64 a2] ?_; (with_reducible refine (spec_Peek.calls k _ _ l0_0 _ _ l1_0 a1_1 a2 t457 _ ?side1 ?side2 ?side3 ?side4 A4.out).mono ?_); (case side1 => exact kc (Kd.C_below HR0_0.out HB.out)); (case side2 => exact HC0_0.out); (case side3 => exact kc (Kd.C_below HR1_0.out HB.out)); (case side4 => exact HC1_0.out); rintro e w16 ⟨rfl, hb⟩; refine ⟨_, rfl, ?_⟩; have n0_ := Aside0.mk (blk_below (g := gb454) (o := .cells #[.slice A0_0 l0_0.length c0_0] 29 (0, 0)) (kb BK454.out) hb); have n1_ := Aside0.mk (blk_below (g := gb455) (o := .cells #[.slice A1_0 l1_0.length c1_0, .int .i64 a1_1] 32 (0, 0)) (kb BK455.out) hb); have n2_ := Aside0.mk (blk_below (g := gb456) (o := .cells #[.int .i64 0, .int .i64 0] 51 (0, 0)) (kb BK456.out) hb); have n3_ := Aside0.mk (below_step (bw HB.out) hb); clear BK454; clear BK455; clear BK456; clear HB; have BK454 := n0_; have BK455 := n1_; have BK456 := n2_; have HB := n3_; clear n0_ n1_ n2_ n3_; (try clear hb); (try clear hb2); (try clear hk); (try clear hi)) | ((with_reducible refine gate_dst (N := 7) rfl ?_); refine bx (N := 7) (cs := #[.int .i64 0, .int .i64 0]) (t := 51) ?_; intro gb458 hg w17 hbox hb; have n0_ := Aside0.mk (blk_below (g := gb454) (o := .cells #[.slice A0_0 l0_0.length c0_0] 29 (0, 0)) (kb BK454.out) hb); have n1_ := Aside0.mk (blk_below (g := gb455) (o := .cells #[.slice A1_0 l1_0.length c1_0, .int .i64 a1_1] 32 (0, 0)) (kb BK455.out) hb); have n2_ := Aside0.mk (blk_below (g := gb456) (o := .cells #[.int .i64 0, .int .i64 0] 51 (0, 0)) (kb BK456.out) hb); have n3_ := Aside0.mk (below_step (bw HB.out) hb); have n4_ := Aside0.mk (hbox); have n5_ := Aside0.mk ((gs hg (bw HB.out))); have n6_ := Aside0.mk ((gs hg (bw HB.out))); have n7_ := Aside0.mk ((ga hg BK454.out)); have n8_ := Aside0.mk ((gc hg BK454.out)); have n9_ := Aside0.mk ((ga hg BK455.out)); have n10_ := Aside0.mk ((gc hg BK455.out)); have n11_ := Aside0.mk ((ga hg BK456.out)); have n12_ := Aside0.mk ((gc hg BK456.out)); clear BK454; clear BK455; clear BK456; clear HB; have BK454 := n0_; have BK455 := n1_; have BK456 := n2_; have HB := n3_; have BK458 := n4_; have GW458 := n5_; have GE458 := n6_; have NB454_458 := n7_; have NB458_454 := n8_; have NB455_458 := n9_; have NB458_455 := n10_; have NB456_458 := n11_; have NB458_456 := n12_; clear n0_ n1_ n2_ n3_ n4_ n5_ n6_ n7_ n8_ n9_ n10_ n11_ n12_; clear hb hbox hg; have hnb18 := NB458_454.out; have hnc18 := NB454_458.out; have hnb19 := NB458_455.out; have hnc19 := NB455_458.out; have hnb20 := NB458_456.out; have hnc20 := NB456_458.out; have hcz21_0 : w17.cell? ⟨gb458, 0, none⟩ = some (.int .i64 0) := cl BK458 0; have hcz21_1 : w17.cell? ⟨gb458, 1, none⟩ = some (.int .i64 0) := cl BK458 1; have hfz21_0 := blk_frozen BK458.out 0; have hfz21_1 := blk_frozen BK458.out 1) | ((with_reducible refine gate_callee (f := 81) rfl ?_); refine goesM_ (some 15) rfl rfl Try.func81 #[.int .i64 t457] ?_; (with_reducible refine (spec_OpLen.calls t457 t459 _ A5.out).mono ?_); rintro e w22 ⟨rfl, hb⟩; refine ⟨_, rfl, ?_⟩; have n0_ := Aside0.mk (blk_below (g := gb454) (o := .cells #[.slice A0_0 l0_0.length c0_0] 29 (0, 0)) (kf BK454.out) hb); have n1_ := Aside0.mk (blk_below (g := gb455) (o := .cells #[.slice A1_0 l1_0.length c1_0, .int .i64 a1_1] 32 (0, 0)) (kf BK455.out) hb); have n2_ := Aside0.mk (blk_below (g := gb456) (o := .cells #[.int .i64 0, .int .i64 0] 51 (0, 0)) (kf BK456.out) hb); have n3_ := Aside0.mk (blk_below (g := gb458) (o := .cells #[.int .i64 t457, .int .i64 0] 51 (0, 0)) (by (with_reducible repeat (first | refine blk_drewN ?_ _ | refine blk_drew ?_ | refine blk_alloc ?_ _)); refine blk_put (cs := #[.int .i64 t457, .int .i64 0]) ?_ 1 _ rfl; (with_reducible repeat (first | refine blk_drewN ?_ _ | refine blk_drew ?_ | refine blk_alloc ?_ _)); refine blk_put (cs := #[.int .i64 0, .int .i64 0]) ?_ 0 _ rfl; (with_reducible repeat (first | refine blk_drewN ?_ _ | refine blk_drew ?_ | refine blk_alloc ?_ _)); exact BK458.out) hb); have n4_ := Aside0.mk (below_step (bw HB.out) hb); clear BK454; clear BK455; clear BK456; clear BK458; clear HB; have BK454 := n0_; have BK455 := n1_; have BK456 := n2_; have BK458 := n3_; have HB := n4_; clear n0_ n1_ n2_ n3_ n4_; (try clear hb); (try clear hb2); (try clear hk); (try clear hi); have hcz23_0 : w22.cell? ⟨gb454, 0, none⟩ = some (.slice A0_0 l0_0.length c0_0) := cl BK454 0; have hfz23_0 := blk_frozen BK454.out 0; have hcz24_0 : w22.cell? ⟨gb455, 0, none⟩ = some (.slice A1_0 l1_0.length c1_0) := cl BK455 0; have hcz24_1 : w22.cell? ⟨gb455, 1, none⟩ = some (.int .i64 a1_1) := cl BK455 1; have hfz24_0 := blk_frozen BK455.out 0; have hfz24_1 := blk_frozen BK455.out 1) | ((with_reducible refine gate_callee (f := 15) rfl ?_); refine goesM_ (some 22) rfl rfl Try.func15 #[.agg #[.slice A0_0 l0_0.length c0_0], .agg #[.slice A1_0 l1_0.length c1_0, .int .i64 a1_1], .int .i64 (wrap64 (a2 + 1))] ?_; (with_reducible refine (spec_Peek.calls k _ _ l0_0 _ _ l1_0 a1_1 (wrap64 (a2 + 1)) t460 _ ?side1 ?side2 ?side3 ?side4 A7.out).mono ?_); (case side1 => exact kc (Kd.C_below HR0_0.out HB.out)); (case side2 => exact HC0_0.out); (case side3 => exact kc (Kd.C_below HR1_0.out HB.out)); (case side4 => exact HC1_0.out); rintro e w25 ⟨rfl, hb⟩; refine ⟨_, rfl, ?_⟩; have n0_ := Aside0.mk (blk_below (g := gb454) (o := .cells #[.slice A0_0 l0_0.length c0_0] 29 (0, 0)) (kb BK454.out) hb); have n1_ := Aside0.mk (blk_below (g := gb455) (o := .cells #[.slice A1_0 l1_0.length c1_0, .int .i64 a1_1] 32 (0, 0)) (kb BK455.out) hb); have n2_ := Aside0.mk (blk_below (g := gb456) (o := .cells #[.int .i64 0, .int .i64 0] 51 (0, 0)) (kb BK456.out) hb); have n3_ := Aside0.mk (blk_below (g := gb458) (o := .cells #[.int .i64 t457, .int .i64 0] 51 (0, 0)) (kb BK458.out) hb); have n4_ := Aside0.mk (below_step (bw HB.out) hb); clear BK454; clear BK455; clear BK456; clear BK458; clear HB; have BK454 := n0_; have BK455 := n1_; have BK456 := n2_; have BK458 := n3_; have HB := n4_; clear n0_ n1_ n2_ n3_ n4_; (try clear hb); (try clear hb2); (try clear hk); (try clear hi); have hcz26_0 : w25.cell? ⟨gb458, 0, none⟩ = some (.int .i64 t457) := cl BK458 0; have hcz26_1 : w25.cell? ⟨gb458, 1, none⟩ = some (.int .i64 0) := cl BK458 1; have hfz26_0 := blk_frozen BK458.out 0; have hfz26_1 := blk_frozen BK458.out 1; have hcz27_0 : w25.cell? ⟨gb456, 0, none⟩ = some (.int .i64 0) := cl BK456 0; have hcz27_1 : w25.cell? ⟨gb456, 1, none⟩ = some (.int .i64 0) := cl BK456 1; have hfz27_0 := blk_frozen BK456.out 0; have hfz27_1 := blk_frozen BK456.out 1))
  refine bodyPost_ret (results_cell_row rfl _ _ gb456 51 #[.int .i64 t457, .int .i64 t460] (0, 0) _ rfl (by (with_reducible repeat (first | refine blk_drewN ?_ _ | refine blk_drew ?_ | refine blk_alloc ?_ _)); refine blk_put (cs := #[.int .i64 t457, .int .i64 0]) ?_ 1 _ rfl; (with_reducible repeat (first | refine blk_drewN ?_ _ | refine blk_drew ?_ | refine blk_alloc ?_ _)); refine blk_put (cs := #[.int .i64 0, .int .i64 0]) ?_ 0 _ rfl; (with_reducible repeat (first | refine blk_drewN ?_ _ | refine blk_drew ?_ | refine blk_alloc ?_ _)); refine blk_far ?_ NB456_458.out _; (with_reducible repeat (first | refine blk_drewN ?_ _ | refine blk_drew ?_ | refine blk_alloc ?_ _)); exact BK456.out) Try.underlying51 rfl (by kernel_rfl)) rfl ?_
  exact ⟨rt, bw HB.out⟩
 ·rw [if_neg c6] at H
  have c6b0 : (t459 == 2) = false := beq_eq_false_iff_ne.mpr c6
  have c6b1 : (t459 != 2) = true := bne_iff_ne.mpr c6
  by_cases c28 : t459 = 3
  ·rw [if_pos c28] at H
   have c28b0 : (t459 == 3) = true := beq_iff_eq.mpr c28
   have c28b1 : (t459 != 3) = false := bne_eq_false_iff_eq.mpr c28
   clear c28
   replace H := Option.bind_eq_some_iff.mp H
   obtain ⟨t461, A290, H⟩ := H
   replace H : ((spec_Peek.f k l0_0 l1_0 a1_1 (wrap64 (a2 + 2))).bind fun t462 => ((spec_Join.f t461 t462).bind fun t463 => (some (t457, t463)))) = some (r1, r2) := H
   have A29 := Aside0.mk A290
   clear A290
   replace H := Option.bind_eq_some_iff.mp H
   obtain ⟨t462, A300, H⟩ := H
   replace H : ((spec_Join.f t461 t462).bind fun t463 => (some (t457, t463))) = some (r1, r2) := H
   have A30 := Aside0.mk A300
   clear A300
   replace H := Option.bind_eq_some_iff.mp H
   obtain ⟨t463, A310, H⟩ := H
   replace H : (some (t457, t463)) = some (r1, r2) := H
   have A31 := Aside0.mk A310
   clear A310
   simp only [Option.some.injEq, Prod.mk.injEq] at H
   obtain ⟨rfl, rfl⟩ := H
   go_enter Try.func37, Try.ntmps37
   try go_wp2_with (first | ((with_reducible refine gate_dst (N := 3) rfl ?_); refine bx (N := 3) (cs := #[.slice A0_0 l0_0.length c0_0]) (t := 29) ?_; intro gb454 hg w32 hbox hb; have n0_ := Aside0.mk (below_step (bw HB.out) hb); have n1_ := Aside0.mk (hbox); have n2_ := Aside0.mk ((gs hg (bw HB.out))); have n3_ := Aside0.mk ((gs hg (bw HB.out))); clear HB; have HB := n0_; have BK454 := n1_; have GW454 := n2_; have GE454 := n3_; clear n0_ n1_ n2_ n3_; clear hb hbox hg) | ((with_reducible refine gate_dst (N := 4) rfl ?_); refine bx (N := 4) (cs := #[.slice A1_0 l1_0.length c1_0, .int .i64 a1_1]) (t := 32) ?_; intro gb455 hg w33 hbox hb; have n0_ := Aside0.mk (blk_below (g := gb454) (o := .cells #[.slice A0_0 l0_0.length c0_0] 29 (0, 0)) (kb BK454.out) hb); have n1_ := Aside0.mk (below_step (bw HB.out) hb); have n2_ := Aside0.mk (hbox); have n3_ := Aside0.mk ((gs hg (bw HB.out))); have n4_ := Aside0.mk ((gs hg (bw HB.out))); have n5_ := Aside0.mk ((ga hg BK454.out)); have n6_ := Aside0.mk ((gc hg BK454.out)); clear BK454; clear HB; have BK454 := n0_; have HB := n1_; have BK455 := n2_; have GW455 := n3_; have GE455 := n4_; have NB454_455 := n5_; have NB455_454 := n6_; clear n0_ n1_ n2_ n3_ n4_ n5_ n6_; clear hb hbox hg) | ((with_reducible refine gate_dst (N := 6) rfl ?_); refine bx (N := 6) (cs := #[.int .i64 0, .int .i64 0]) (t := 51) ?_; intro gb456 hg w34 hbox hb; have n0_ := Aside0.mk (blk_below (g := gb454) (o := .cells #[.slice A0_0 l0_0.length c0_0] 29 (0, 0)) (kb BK454.out) hb); have n1_ := Aside0.mk (blk_below (g := gb455) (o := .cells #[.slice A1_0 l1_0.length c1_0, .int .i64 a1_1] 32 (0, 0)) (kb BK455.out) hb); have n2_ := Aside0.mk (below_step (bw HB.out) hb); have n3_ := Aside0.mk (hbox); have n4_ := Aside0.mk ((gs hg (bw HB.out))); have n5_ := Aside0.mk ((gs hg (bw HB.out))); have n6_ := Aside0.mk ((ga hg BK454.out)); have n7_ := Aside0.mk ((gc hg BK454.out)); have n8_ := Aside0.mk ((ga hg BK455.out)); have n9_ := Aside0.mk ((gc hg BK455.out)); clear BK454; clear BK455; clear HB; have BK454 := n0_; have BK455 := n1_; have HB := n2_; have BK456 := n3_; have GW456 := n4_; have GE456 := n5_; have NB454_456 := n6_; have NB456_454 := n7_; have NB455_456 := n8_; have NB456_455 := n9_; clear n0_ n1_ n2_ n3_ n4_ n5_ n6_ n7_ n8_ n9_; clear hb hbox hg; have hnb35 := NB454_455.out; have hnc35 := NB455_454.out; have hnb36 := NB454_456.out; have hnc36 := NB456_454.out; have hcz37_0 : w34.cell? ⟨gb454, 0, none⟩ = some (.slice A0_0 l0_0.length c0_0) := cl BK454 0; have hfz37_0 := blk_frozen BK454.out 0; have hnb38 := NB455_456.out; have hnc38 := NB456_455.out; have hcz39_0 : w34.cell? ⟨gb455, 0, none⟩ = some (.slice A1_0 l1_0.length c1_0) := cl BK455 0; have hcz39_1 : w34.cell? ⟨gb455, 1, none⟩ = some (.int .i64 a1_1) := cl BK455 1; have hfz39_0 := blk_frozen BK455.out 0; have hfz39_1 := blk_frozen BK455.out 1) | ((with_reducible refine gate_callee (f := 15) rfl ?_); refine goesM_ (some 11) rfl rfl Try.func15 #[.agg #[.slice A0_0 l0_0.length c0_0], .agg #[.slice A1_0 l1_0.length c1_0, .int .i64 a1_1], .int .i64 a2] ?_; (with_reducible refine (spec_Peek.calls k _ _ l0_0 _ _ l1_0 a1_1 a2 t457 _ ?side1 ?side2 ?side3 ?side4 A4.out).mono ?_); (case side1 => exact kc (Kd.C_below HR0_0.out HB.out)); (case side2 => exact HC0_0.out); (case side3 => exact kc (Kd.C_below HR1_0.out HB.out)); (case side4 => exact HC1_0.out); rintro e w40 ⟨rfl, hb⟩; refine ⟨_, rfl, ?_⟩; have n0_ := Aside0.mk (blk_below (g := gb454) (o := .cells #[.slice A0_0 l0_0.length c0_0] 29 (0, 0)) (kb BK454.out) hb); have n1_ := Aside0.mk (blk_below (g := gb455) (o := .cells #[.slice A1_0 l1_0.length c1_0, .int .i64 a1_1] 32 (0, 0)) (kb BK455.out) hb); have n2_ := Aside0.mk (blk_below (g := gb456) (o := .cells #[.int .i64 0, .int .i64 0] 51 (0, 0)) (kb BK456.out) hb); have n3_ := Aside0.mk (below_step (bw HB.out) hb); clear BK454; clear BK455; clear BK456; clear HB; have BK454 := n0_; have BK455 := n1_; have BK456 := n2_; have HB := n3_; clear n0_ n1_ n2_ n3_; (try clear hb); (try clear hb2); (try clear hk); (try clear hi)) | ((with_reducible refine gate_dst (N := 7) rfl ?_); refine bx (N := 7) (cs := #[.int .i64 0, .int .i64 0]) (t := 51) ?_; intro gb458 hg w41 hbox hb; have n0_ := Aside0.mk (blk_below (g := gb454) (o := .cells #[.slice A0_0 l0_0.length c0_0] 29 (0, 0)) (kb BK454.out) hb); have n1_ := Aside0.mk (blk_below (g := gb455) (o := .cells #[.slice A1_0 l1_0.length c1_0, .int .i64 a1_1] 32 (0, 0)) (kb BK455.out) hb); have n2_ := Aside0.mk (blk_below (g := gb456) (o := .cells #[.int .i64 0, .int .i64 0] 51 (0, 0)) (kb BK456.out) hb); have n3_ := Aside0.mk (below_step (bw HB.out) hb); have n4_ := Aside0.mk (hbox); have n5_ := Aside0.mk ((gs hg (bw HB.out))); have n6_ := Aside0.mk ((gs hg (bw HB.out))); have n7_ := Aside0.mk ((ga hg BK454.out)); have n8_ := Aside0.mk ((gc hg BK454.out)); have n9_ := Aside0.mk ((ga hg BK455.out)); have n10_ := Aside0.mk ((gc hg BK455.out)); have n11_ := Aside0.mk ((ga hg BK456.out)); have n12_ := Aside0.mk ((gc hg BK456.out)); clear BK454; clear BK455; clear BK456; clear HB; have BK454 := n0_; have BK455 := n1_; have BK456 := n2_; have HB := n3_; have BK458 := n4_; have GW458 := n5_; have GE458 := n6_; have NB454_458 := n7_; have NB458_454 := n8_; have NB455_458 := n9_; have NB458_455 := n10_; have NB456_458 := n11_; have NB458_456 := n12_; clear n0_ n1_ n2_ n3_ n4_ n5_ n6_ n7_ n8_ n9_ n10_ n11_ n12_; clear hb hbox hg; have hnb42 := NB458_454.out; have hnc42 := NB454_458.out; have hnb43 := NB458_455.out; have hnc43 := NB455_458.out; have hnb44 := NB458_456.out; have hnc44 := NB456_458.out; have hcz45_0 : w41.cell? ⟨gb458, 0, none⟩ = some (.int .i64 0) := cl BK458 0; have hcz45_1 : w41.cell? ⟨gb458, 1, none⟩ = some (.int .i64 0) := cl BK458 1; have hfz45_0 := blk_frozen BK458.out 0; have hfz45_1 := blk_frozen BK458.out 1) | ((with_reducible refine gate_callee (f := 81) rfl ?_); refine goesM_ (some 15) rfl rfl Try.func81 #[.int .i64 t457] ?_; (with_reducible refine (spec_OpLen.calls t457 t459 _ A5.out).mono ?_); rintro e w46 ⟨rfl, hb⟩; refine ⟨_, rfl, ?_⟩; have n0_ := Aside0.mk (blk_below (g := gb454) (o := .cells #[.slice A0_0 l0_0.length c0_0] 29 (0, 0)) (kf BK454.out) hb); have n1_ := Aside0.mk (blk_below (g := gb455) (o := .cells #[.slice A1_0 l1_0.length c1_0, .int .i64 a1_1] 32 (0, 0)) (kf BK455.out) hb); have n2_ := Aside0.mk (blk_below (g := gb456) (o := .cells #[.int .i64 0, .int .i64 0] 51 (0, 0)) (kf BK456.out) hb); have n3_ := Aside0.mk (blk_below (g := gb458) (o := .cells #[.int .i64 t457, .int .i64 0] 51 (0, 0)) (by (with_reducible repeat (first | refine blk_drewN ?_ _ | refine blk_drew ?_ | refine blk_alloc ?_ _)); refine blk_put (cs := #[.int .i64 t457, .int .i64 0]) ?_ 1 _ rfl; (with_reducible repeat (first | refine blk_drewN ?_ _ | refine blk_drew ?_ | refine blk_alloc ?_ _)); refine blk_put (cs := #[.int .i64 0, .int .i64 0]) ?_ 0 _ rfl; (with_reducible repeat (first | refine blk_drewN ?_ _ | refine blk_drew ?_ | refine blk_alloc ?_ _)); exact BK458.out) hb); have n4_ := Aside0.mk (below_step (bw HB.out) hb); clear BK454; clear BK455; clear BK456; clear BK458; clear HB; have BK454 := n0_; have BK455 := n1_; have BK456 := n2_; have BK458 := n3_; have HB := n4_; clear n0_ n1_ n2_ n3_ n4_; (try clear hb); (try clear hb2); (try clear hk); (try clear hi)))
   have n0_ := Aside0.mk (blk_drew BK454.out)
   have n1_ := Aside0.mk (blk_drew BK455.out)
   have n2_ := Aside0.mk (blk_drew BK456.out)
   have n3_ := Aside0.mk (blk_drew BK458.out)
   have n4_ := Aside0.mk (below_drew1 HB.out)
   clear BK454; clear BK455; clear BK456; clear BK458; clear HB; have BK454 := n0_; have BK455 := n1_; have BK456 := n2_; have BK458 := n3_; have HB := n4_; clear n0_ n1_ n2_ n3_ n4_
   refine start_ (n := 13) (S := fun w' => w'.cell? ⟨gb454, 0, none⟩ = some (.slice A0_0 l0_0.length c0_0) ∧ w'.cell? ⟨gb455, 0, none⟩ = some (.slice A1_0 l1_0.length c1_0) ∧ w'.cell? ⟨gb455, 1, none⟩ = some (.int .i64 a1_1)) (ds := []) (bm 13 0) (by kernel_rfl) rfl (by kernel_rfl) ⟨cl BK454 0, cl BK455 0, cl BK455 1⟩ (fun hHeld => ?_); refine with_tabW spec_Fetch.tab6 spec_Fetch.bits6 (fun HT_ HW_ => ?_)
   generalize w46.drew = w47 at BK454 BK455 BK456 BK458 HB hHeld ⊢
   refine pw_ 2 (some 28) (bm 13 4) HT_ ?_
   refine pw_ 3 (some 29) (bm 13 12) HT_ ?_
   refine pw_ 7 (some 33) (bm 13 140) HT_ ?_
   refine pw_ 8 (some 34) (bm 13 396) HT_ ?_
   refine tw_ 0 (some 26) (bm 13 397) HT_ HW_ hHeld ?_
   refine tw_ 1 (some 27) (bm 13 399) HT_ HW_ hHeld ?_
   refine tw_ 5 (some 31) (bm 13 431) HT_ HW_ hHeld ?_
   refine tw_ 6 (some 32) (bm 13 495) HT_ HW_ hHeld ?_
   refine ow_ 4 (some 30) (bm 13 511) HT_ (fun K hK => ?_)
   refine gw_ Try.func15 #[.agg #[.slice A0_0 l0_0.length c0_0], .agg #[.slice A1_0 l1_0.length c1_0, .int .i64 a1_1], .int .i64 (wrap64 (a2 + 1))] ?_
   with_reducible refine (spec_Peek.calls k _ _ l0_0 _ _ l1_0 a1_1 (wrap64 (a2 + 1)) t461 _ ?side1 ?side2 ?side3 ?side4 A29.out).mono ?_
   (case side1 => exact kc (Kd.C_below HR0_0.out HB.out))
   (case side2 => exact HC0_0.out)
   (case side3 => exact kc (Kd.C_below HR1_0.out HB.out))
   (case side4 => exact HC1_0.out)
   rintro e w48 ⟨rfl, hb⟩
   refine ⟨_, rfl, ?_⟩
   have n0_ := Aside0.mk (blk_below (g := gb454) (o := .cells #[.slice A0_0 l0_0.length c0_0] 29 (0, 0)) (kb BK454.out) hb)
   have n1_ := Aside0.mk (blk_below (g := gb455) (o := .cells #[.slice A1_0 l1_0.length c1_0, .int .i64 a1_1] 32 (0, 0)) (kb BK455.out) hb)
   have n2_ := Aside0.mk (blk_below (g := gb456) (o := .cells #[.int .i64 0, .int .i64 0] 51 (0, 0)) (kb BK456.out) hb)
   have n3_ := Aside0.mk (blk_below (g := gb458) (o := .cells #[.int .i64 t457, .int .i64 0] 51 (0, 0)) (kb BK458.out) hb)
   have n4_ := Aside0.mk (below_step (bw HB.out) hb)
   clear BK454; clear BK455; clear BK456; clear BK458; clear HB; have BK454 := n0_; have BK455 := n1_; have BK456 := n2_; have BK458 := n3_; have HB := n4_; clear n0_ n1_ n2_ n3_ n4_; (try clear hb); (try clear hb2); (try clear hk); (try clear hi)
   refine hK.out _ _ ⟨cl BK454 0, cl BK455 0, cl BK455 1⟩ (fun hHeld => ?_)
   clear hK K
   refine nw_ ?_
   refine ow_ 9 (some 35) (bm 13 1023) HT_ (fun K hK => ?_)
   refine gw_ Try.func15 #[.agg #[.slice A0_0 l0_0.length c0_0], .agg #[.slice A1_0 l1_0.length c1_0, .int .i64 a1_1], .int .i64 (wrap64 (a2 + 2))] ?_
   with_reducible refine (spec_Peek.calls k _ _ l0_0 _ _ l1_0 a1_1 (wrap64 (a2 + 2)) t462 _ ?side1 ?side2 ?side3 ?side4 A30.out).mono ?_
   (case side1 => exact kc (Kd.C_below HR0_0.out HB.out))
   (case side2 => exact HC0_0.out)
   (case side3 => exact kc (Kd.C_below HR1_0.out HB.out))
   (case side4 => exact HC1_0.out)
   rintro e w49 ⟨rfl, hb⟩
   refine ⟨_, rfl, ?_⟩
   have n0_ := Aside0.mk (blk_below (g := gb454) (o := .cells #[.slice A0_0 l0_0.length c0_0] 29 (0, 0)) (kb BK454.out) hb)
   have n1_ := Aside0.mk (blk_below (g := gb455) (o := .cells #[.slice A1_0 l1_0.length c1_0, .int .i64 a1_1] 32 (0, 0)) (kb BK455.out) hb)
   have n2_ := Aside0.mk (blk_below (g := gb456) (o := .cells #[.int .i64 0, .int .i64 0] 51 (0, 0)) (kb BK456.out) hb)
   have n3_ := Aside0.mk (blk_below (g := gb458) (o := .cells #[.int .i64 t457, .int .i64 0] 51 (0, 0)) (kb BK458.out) hb)
   have n4_ := Aside0.mk (below_step (bw HB.out) hb)
   clear BK454; clear BK455; clear BK456; clear BK458; clear HB; have BK454 := n0_; have BK455 := n1_; have BK456 := n2_; have BK458 := n3_; have HB := n4_; clear n0_ n1_ n2_ n3_ n4_; (try clear hb); (try clear hb2); (try clear hk); (try clear hi)
   refine hK.out _ _ ⟨cl BK454 0, cl BK455 0, cl BK455 1⟩ (fun hHeld => ?_)
   clear hK K
   refine nw_ ?_
   refine ow_ 10 (some 36) (bm 13 2047) HT_ (fun K hK => ?_)
   refine gw_ Try.func82 #[.int .i64 t461, .int .i64 t462] ?_
   with_reducible refine (spec_Join.calls t461 t462 t463 _ A31.out).mono ?_
   rintro e w' ⟨rfl, ⟨nd, rfl⟩⟩
   refine ⟨_, rfl, ?_⟩
   have n0_ := Aside0.mk (blk_drewN BK454.out nd)
   have n1_ := Aside0.mk (blk_drewN BK455.out nd)
   have n2_ := Aside0.mk (blk_drewN BK456.out nd)
   have n3_ := Aside0.mk (blk_drewN BK458.out nd)
   have n4_ := Aside0.mk (pw_below_drewN HB.out nd)
   clear BK454; clear BK455; clear BK456; clear BK458; clear HB; have BK454 := n0_; have BK455 := n1_; have BK456 := n2_; have BK458 := n3_; have HB := n4_; clear n0_ n1_ n2_ n3_ n4_
   generalize w49.drewN nd = w49 at BK454 BK455 BK456 BK458 HB ⊢
   refine hK.out _ _ ⟨cl BK454 0, cl BK455 0, cl BK455 1⟩ (fun hHeld => ?_)
   clear hK K
   refine nw_ ?_
   refine pw_ 11 (some 37) (bm 13 4095) HT_ ?_
   refine ow_ 12 none (bm 13 8191) HT_ (fun K hK => ?_)
   have hs50 : w49.cell? ⟨gb458, 1, none⟩ = some (.int .i64 0) := cl BK458 1
   have hfs50 := blk_frozen BK458.out 1
   have hns50_0 := NB454_458.out
   have hns50_1 := NB455_458.out
   have hns50_2 := NB456_458.out
   have hms50_0 := NB458_454.out
   have hms50_1 := NB458_455.out
   have hms50_2 := NB458_456.out
   refine skip_ (w1 := ?_) (by rfl) rfl ?_ ?_
   rotate_left
   ·go_simp
    rfl
   refine hK.out _ _ ⟨((cell_far (p := ⟨gb458, _, none⟩) NB454_458.out _).trans (hHeld.1)), ((cell_far (p := ⟨gb458, _, none⟩) NB455_458.out _).trans (hHeld.2.1)), ((cell_far (p := ⟨gb458, _, none⟩) NB455_458.out _).trans (hHeld.2.2))⟩ (fun hHeld => ?_)
   clear hK K
   refine done_ (done_of HT_.out (by kernel_rfl)) ?_
   have hcz51_0 : w49.cell? ⟨gb458, 0, none⟩ = some (.int .i64 t457) := cl BK458 0
   have hcz51_1 : w49.cell? ⟨gb458, 1, none⟩ = some (.int .i64 0) := cl BK458 1
   have hfz51_0 := blk_frozen BK458.out 0
   have hfz51_1 := blk_frozen BK458.out 1
   have hcz52_0 : w49.cell? ⟨gb456, 0, none⟩ = some (.int .i64 0) := cl BK456 0
   have hcz52_1 : w49.cell? ⟨gb456, 1, none⟩ = some (.int .i64 0) := cl BK456 1
   have hfz52_0 := blk_frozen BK456.out 0
   have hfz52_1 := blk_frozen BK456.out 1
   try go_wp2
   refine bodyPost_ret (results_cell_row rfl _ _ gb456 51 #[.int .i64 t457, .int .i64 t463] (0, 0) _ rfl (by (with_reducible repeat (first | refine blk_drewN ?_ _ | refine blk_drew ?_ | refine blk_alloc ?_ _)); refine blk_put (cs := #[.int .i64 t457, .int .i64 0]) ?_ 1 _ rfl; (with_reducible repeat (first | refine blk_drewN ?_ _ | refine blk_drew ?_ | refine blk_alloc ?_ _)); refine blk_put (cs := #[.int .i64 0, .int .i64 0]) ?_ 0 _ rfl; (with_reducible repeat (first | refine blk_drewN ?_ _ | refine blk_drew ?_ | refine blk_alloc ?_ _)); refine blk_far ?_ NB456_458.out _; (with_reducible repeat (first | refine blk_drewN ?_ _ | refine blk_drew ?_ | refine blk_alloc ?_ _)); exact BK456.out) Try.underlying51 rfl (by kernel_rfl)) rfl ?_
   exact ⟨rt, bw HB.out⟩
  ·rw [if_neg c28] at H
   have c28b0 : (t459 == 3) = false := beq_eq_false_iff_ne.mpr c28
   have c28b1 : (t459 != 3) = true := bne_iff_ne.mpr c28
   simp only [Option.some.injEq, Prod.mk.injEq] at H
   obtain ⟨rfl, rfl⟩ := H
   go_enter Try.func37, Try.ntmps37
   go_wp2_with (first | ((with_reducible refine gate_dst (N := 3) rfl ?_); refine bx (N := 3) (cs := #[.slice A0_0 l0_0.length c0_0]) (t := 29) ?_; intro gb454 hg w53 hbox hb; have n0_ := Aside0.mk (below_step (bw HB.out) hb); have n1_ := Aside0.mk (hbox); have n2_ := Aside0.mk ((gs hg (bw HB.out))); have n3_ := Aside0.mk ((gs hg (bw HB.out))); clear HB; have HB := n0_; have BK454 := n1_; have GW454 := n2_; have GE454 := n3_; clear n0_ n1_ n2_ n3_; clear hb hbox hg) | ((with_reducible refine gate_dst (N := 4) rfl ?_); refine bx (N := 4) (cs := #[.slice A1_0 l1_0.length c1_0, .int .i64 a1_1]) (t := 32) ?_; intro gb455 hg w54 hbox hb; have n0_ := Aside0.mk (blk_below (g := gb454) (o := .cells #[.slice A0_0 l0_0.length c0_0] 29 (0, 0)) (kb BK454.out) hb); have n1_ := Aside0.mk (below_step (bw HB.out) hb); have n2_ := Aside0.mk (hbox); have n3_ := Aside0.mk ((gs hg (bw HB.out))); have n4_ := Aside0.mk ((gs hg (bw HB.out))); have n5_ := Aside0.mk ((ga hg BK454.out)); have n6_ := Aside0.mk ((gc hg BK454.out)); clear BK454; clear HB; have BK454 := n0_; have HB := n1_; have BK455 := n2_; have GW455 := n3_; have GE455 := n4_; have NB454_455 := n5_; have NB455_454 := n6_; clear n0_ n1_ n2_ n3_ n4_ n5_ n6_; clear hb hbox hg) | ((with_reducible refine gate_dst (N := 6) rfl ?_); refine bx (N := 6) (cs := #[.int .i64 0, .int .i64 0]) (t := 51) ?_; intro gb456 hg w55 hbox hb; have n0_ := Aside0.mk (blk_below (g := gb454) (o := .cells #[.slice A0_0 l0_0.length c0_0] 29 (0, 0)) (kb BK454.out) hb); have n1_ := Aside0.mk (blk_below (g := gb455) (o := .cells #[.slice A1_0 l1_0.length c1_0, .int .i64 a1_1] 32 (0, 0)) (kb BK455.out) hb); have n2_ := Aside0.mk (below_step (bw HB.out) hb); have n3_ := Aside0.mk (hbox); have n4_ := Aside0.mk ((gs hg (bw HB.out))); have n5_ := Aside0.mk ((gs hg (bw HB.out))); have n6_ := Aside0.mk ((ga hg BK454.out)); have n7_ := Aside0.mk ((gc hg BK454.out)); have n8_ := Aside0.mk ((ga hg BK455.out)); have n9_ := Aside0.mk ((gc hg BK455.out)); clear BK454; clear BK455; clear HB; have BK454 := n0_; have BK455 := n1_; have HB := n2_; have BK456 := n3_; have GW456 := n4_; have GE456 := n5_; have NB454_456 := n6_; have NB456_454 := n7_; have NB455_456 := n8_; have NB456_455 := n9_; clear n0_ n1_ n2_ n3_ n4_ n5_ n6_ n7_ n8_ n9_; clear hb hbox hg; have hnb56 := NB454_455.out; have hnc56 := NB455_454.out; have hnb57 := NB454_456.out; have hnc57 := NB456_454.out; have hcz58_0 : w55.cell? ⟨gb454, 0, none⟩ = some (.slice A0_0 l0_0.length c0_0) := cl BK454 0; have hfz58_0 := blk_frozen BK454.out 0; have hnb59 := NB455_456.out; have hnc59 := NB456_455.out; have hcz60_0 : w55.cell? ⟨gb455, 0, none⟩ = some (.slice A1_0 l1_0.length c1_0) := cl BK455 0; have hcz60_1 : w55.cell? ⟨gb455, 1, none⟩ = some (.int .i64 a1_1) := cl BK455 1; have hfz60_0 := blk_frozen BK455.out 0; have hfz60_1 := blk_frozen BK455.out 1) | ((with_reducible refine gate_callee (f := 15) rfl ?_); refine goesM_ (some 11) rfl rfl Try.func15 #[.agg #[.slice A0_0 l0_0.length c0_0], .agg #[.slice A1_0 l1_0.length c1_0, .int .i64 a1_1], .int .i64 a2] ?_; (with_reducible refine (spec_Peek.calls k _ _ l0_0 _ _ l1_0 a1_1 a2 t457 _ ?side1 ?side2 ?side3 ?side4 A4.out).mono ?_); (case side1 => exact kc (Kd.C_below HR0_0.out HB.out)); (case side2 => exact HC0_0.out); (case side3 => exact kc (Kd.C_below HR1_0.out HB.out)); (case side4 => exact HC1_0.out); rintro e w61 ⟨rfl, hb⟩; refine ⟨_, rfl, ?_⟩; have n0_ := Aside0.mk (blk_below (g := gb454) (o := .cells #[.slice A0_0 l0_0.length c0_0] 29 (0, 0)) (kb BK454.out) hb); have n1_ := Aside0.mk (blk_below (g := gb455) (o := .cells #[.slice A1_0 l1_0.length c1_0, .int .i64 a1_1] 32 (0, 0)) (kb BK455.out) hb); have n2_ := Aside0.mk (blk_below (g := gb456) (o := .cells #[.int .i64 0, .int .i64 0] 51 (0, 0)) (kb BK456.out) hb); have n3_ := Aside0.mk (below_step (bw HB.out) hb); clear BK454; clear BK455; clear BK456; clear HB; have BK454 := n0_; have BK455 := n1_; have BK456 := n2_; have HB := n3_; clear n0_ n1_ n2_ n3_; (try clear hb); (try clear hb2); (try clear hk); (try clear hi)) | ((with_reducible refine gate_dst (N := 7) rfl ?_); refine bx (N := 7) (cs := #[.int .i64 0, .int .i64 0]) (t := 51) ?_; intro gb458 hg w62 hbox hb; have n0_ := Aside0.mk (blk_below (g := gb454) (o := .cells #[.slice A0_0 l0_0.length c0_0] 29 (0, 0)) (kb BK454.out) hb); have n1_ := Aside0.mk (blk_below (g := gb455) (o := .cells #[.slice A1_0 l1_0.length c1_0, .int .i64 a1_1] 32 (0, 0)) (kb BK455.out) hb); have n2_ := Aside0.mk (blk_below (g := gb456) (o := .cells #[.int .i64 0, .int .i64 0] 51 (0, 0)) (kb BK456.out) hb); have n3_ := Aside0.mk (below_step (bw HB.out) hb); have n4_ := Aside0.mk (hbox); have n5_ := Aside0.mk ((gs hg (bw HB.out))); have n6_ := Aside0.mk ((gs hg (bw HB.out))); have n7_ := Aside0.mk ((ga hg BK454.out)); have n8_ := Aside0.mk ((gc hg BK454.out)); have n9_ := Aside0.mk ((ga hg BK455.out)); have n10_ := Aside0.mk ((gc hg BK455.out)); have n11_ := Aside0.mk ((ga hg BK456.out)); have n12_ := Aside0.mk ((gc hg BK456.out)); clear BK454; clear BK455; clear BK456; clear HB; have BK454 := n0_; have BK455 := n1_; have BK456 := n2_; have HB := n3_; have BK458 := n4_; have GW458 := n5_; have GE458 := n6_; have NB454_458 := n7_; have NB458_454 := n8_; have NB455_458 := n9_; have NB458_455 := n10_; have NB456_458 := n11_; have NB458_456 := n12_; clear n0_ n1_ n2_ n3_ n4_ n5_ n6_ n7_ n8_ n9_ n10_ n11_ n12_; clear hb hbox hg; have hnb63 := NB458_454.out; have hnc63 := NB454_458.out; have hnb64 := NB458_455.out; have hnc64 := NB455_458.out; have hnb65 := NB458_456.out; have hnc65 := NB456_458.out; have hcz66_0 : w62.cell? ⟨gb458, 0, none⟩ = some (.int .i64 0) := cl BK458 0; have hcz66_1 : w62.cell? ⟨gb458, 1, none⟩ = some (.int .i64 0) := cl BK458 1; have hfz66_0 := blk_frozen BK458.out 0; have hfz66_1 := blk_frozen BK458.out 1) | ((with_reducible refine gate_callee (f := 81) rfl ?_); refine goesM_ (some 15) rfl rfl Try.func81 #[.int .i64 t457] ?_; (with_reducible refine (spec_OpLen.calls t457 t459 _ A5.out).mono ?_); rintro e w67 ⟨rfl, hb⟩; refine ⟨_, rfl, ?_⟩; have n0_ := Aside0.mk (blk_below (g := gb454) (o := .cells #[.slice A0_0 l0_0.length c0_0] 29 (0, 0)) (kf BK454.out) hb); have n1_ := Aside0.mk (blk_below (g := gb455) (o := .cells #[.slice A1_0 l1_0.length c1_0, .int .i64 a1_1] 32 (0, 0)) (kf BK455.out) hb); have n2_ := Aside0.mk (blk_below (g := gb456) (o := .cells #[.int .i64 0, .int .i64 0] 51 (0, 0)) (kf BK456.out) hb); have n3_ := Aside0.mk (blk_below (g := gb458) (o := .cells #[.int .i64 t457, .int .i64 0] 51 (0, 0)) (by (with_reducible repeat (first | refine blk_drewN ?_ _ | refine blk_drew ?_ | refine blk_alloc ?_ _)); refine blk_put (cs := #[.int .i64 t457, .int .i64 0]) ?_ 1 _ rfl; (with_reducible repeat (first | refine blk_drewN ?_ _ | refine blk_drew ?_ | refine blk_alloc ?_ _)); refine blk_put (cs := #[.int .i64 0, .int .i64 0]) ?_ 0 _ rfl; (with_reducible repeat (first | refine blk_drewN ?_ _ | refine blk_drew ?_ | refine blk_alloc ?_ _)); exact BK458.out) hb); have n4_ := Aside0.mk (below_step (bw HB.out) hb); clear BK454; clear BK455; clear BK456; clear BK458; clear HB; have BK454 := n0_; have BK455 := n1_; have BK456 := n2_; have BK458 := n3_; have HB := n4_; clear n0_ n1_ n2_ n3_ n4_; (try clear hb); (try clear hb2); (try clear hk); (try clear hi); have hcz68_0 : w67.cell? ⟨gb458, 0, none⟩ = some (.int .i64 t457) := cl BK458 0; have hcz68_1 : w67.cell? ⟨gb458, 1, none⟩ = some (.int .i64 0) := cl BK458 1; have hfz68_0 := blk_frozen BK458.out 0; have hfz68_1 := blk_frozen BK458.out 1; have hcz69_0 : w67.cell? ⟨gb456, 0, none⟩ = some (.int .i64 0) := cl BK456 0; have hcz69_1 : w67.cell? ⟨gb456, 1, none⟩ = some (.int .i64 0) := cl BK456 1; have hfz69_0 := blk_frozen BK456.out 0; have hfz69_1 := blk_frozen BK456.out 1))
   refine bodyPost_ret (results_cell_row rfl _ _ gb456 51 #[.int .i64 t457, .int .i64 0] (0, 0) _ rfl (by (with_reducible repeat (first | refine blk_drewN ?_ _ | refine blk_drew ?_ | refine blk_alloc ?_ _)); refine blk_put (cs := #[.int .i64 t457, .int .i64 0]) ?_ 1 _ rfl; (with_reducible repeat (first | refine blk_drewN ?_ _ | refine blk_drew ?_ | refine blk_alloc ?_ _)); refine blk_put (cs := #[.int .i64 0, .int .i64 0]) ?_ 0 _ rfl; (with_reducible repeat (first | refine blk_drewN ?_ _ | refine blk_drew ?_ | refine blk_alloc ?_ _)); exact BK456.out) Try.underlying51 rfl (by kernel_rfl)) rfl ?_
   exact ⟨rt, bw HB.out⟩

/-! ### spec_l7DrawInstr: function 83 -/
def spec_l7DrawInstr.f (s0_0 : List Int) (s0_1 : Int) (s0_2 : Int) : Option (Int × Int × Int × Int) := (spec_l1Below.f s0_0 s0_1 s0_2 31).bind fun bt465 => ((spec_l1Below.f s0_0 bt465.2.1 bt465.2.2 256).bind fun bt468 => ((spec_l1PickInt.f s0_0 bt468.2.1 bt468.2.2 (([0, 1, 5, 127, 128, 255, 256, 8192, 49152, 65535, bt468.1] : List Int))).bind fun bt474 => (some (bt465.1, bt474.1, bt474.2.1, bt474.2.2))))
set_option maxHeartbeats 8000000 in
set_option maxRecDepth 100000 in
theorem spec_l7DrawInstr.calls (g : Nat) (s0_0 : List Int) (s0_1 : Int) (s0_2 : Int) (r1 : Int) (r2 : Int) (r3 : Int) (r4 : Int) (w0 w : World) (hI : IsS107 w0 w g s0_0 s0_1 s0_2) (hB : Below w0.heap.size w0 w) (h : spec_l7DrawInstr.f s0_0 s0_1 s0_2 = some (r1, r2, r3, r4)) :
  Calls Try.prog 83 #[.pointer (some ⟨g, 0, none⟩)] w fun e w' => e = .returned (.agg #[.int .i64 r1, .int .i64 r2]) ∧ IsS107 w0 w' g s0_0 r3 r4 ∧ Below w0.heap.size w0 w' ∧ KeepBut w w' g none := by
 have hu51 := Try.underlying51
 have HI0 := Aside0.mk hI
 have HK := Aside0.mk (KeepBut.refl w g none)
 have HL := Aside0.mk hB.size
 clear hI
 have HW0 := Aside0.mk hB.size
 have HB := Aside0.mk hB
 clear hB
 have H : ((spec_l1Below.f s0_0 s0_1 s0_2 31).bind fun bt465 => ((spec_l1Below.f s0_0 bt465.2.1 bt465.2.2 256).bind fun bt468 => ((spec_l1PickInt.f s0_0 bt468.2.1 bt468.2.2 (([0, 1, 5, 127, 128, 255, 256, 8192, 49152, 65535, bt468.1] : List Int))).bind fun bt474 => (some (bt465.1, bt474.1, bt474.2.1, bt474.2.2))))) = some (r1, r2, r3, r4) := h
 clear h
 replace H := Option.bind_eq_some_iff.mp H
 obtain ⟨⟨t465, t466, t467⟩, A20, H⟩ := H
 replace H : ((spec_l1Below.f s0_0 t466 t467 256).bind fun bt468 => ((spec_l1PickInt.f s0_0 bt468.2.1 bt468.2.2 (([0, 1, 5, 127, 128, 255, 256, 8192, 49152, 65535, bt468.1] : List Int))).bind fun bt474 => (some (t465, bt474.1, bt474.2.1, bt474.2.2)))) = some (r1, r2, r3, r4) := H
 have A2 := Aside0.mk A20
 clear A20
 replace H := Option.bind_eq_some_iff.mp H
 obtain ⟨⟨t468, t469, t470⟩, A30, H⟩ := H
 replace H : ((spec_l1PickInt.f s0_0 t469 t470 (([0, 1, 5, 127, 128, 255, 256, 8192, 49152, 65535, t468] : List Int))).bind fun bt474 => (some (t465, bt474.1, bt474.2.1, bt474.2.2))) = some (r1, r2, r3, r4) := H
 have A3 := Aside0.mk A30
 clear A30
 obtain ⟨y471, hy471⟩ : ∃ y_ : List Int, y_ = (([0, 1, 5, 127, 128, 255, 256, 8192, 49152, 65535, t468] : List Int)) := ⟨_, rfl⟩
 replace H : ((spec_l1PickInt.f s0_0 t469 t470 y471).bind fun bt474 => (some (t465, bt474.1, bt474.2.1, bt474.2.2))) = some (r1, r2, r3, r4) := by first | (rw [hy471]; with_reducible exact H) | (have H2_ := (Option.bind_some _ _).symm.trans H; rw [hy471]; with_reducible exact H2_) | (have H2_ := (Option.bind_some _ _).symm.trans H; with_reducible exact H2_) | with_reducible exact H | (rw [hy471]; exact H) | exact H
 have Ny471 := Aside0.mk hy471
 clear hy471
 replace H := Option.bind_eq_some_iff.mp H
 obtain ⟨⟨t474, t475, t476⟩, A40, H⟩ := H
 replace H : (some (t465, t474, t475, t476)) = some (r1, r2, r3, r4) := H
 have A4 := Aside0.mk A40
 clear A40
 simp only [Option.some.injEq, Prod.mk.injEq] at H
 obtain ⟨rfl, rfl, rfl, rfl⟩ := H
 go_enter Try.func83, Try.ntmps83
 go_wp2_with (first | ((with_reducible refine gate_dst (N := 2) rfl ?_); refine bx (N := 2) (cs := #[.int .i64 0, .int .i64 0]) (t := 51) ?_; intro gb464 hg w5 hbox hb; have n0_ := Aside0.mk (IsS107.below (si HI0.out) hb); have n1_ := Aside0.mk (KeepBut.trans (kp HK.out) (KeepBut.of_below hb g none) (.inl rfl)); have n2_ := Aside0.mk (below_step (bi HB.out) hb); have n3_ := Aside0.mk (hbox); have n4_ := Aside0.mk ((by rw [hg]; exact (keep_size (w := w) (g := g) (row := none) (kp HK.out)) : w.heap.size ≤ gb464)); have n5_ := Aside0.mk ((Nat.le_trans HW0.out (by rw [hg]; exact (keep_size (w := w) (g := g) (row := none) (kp HK.out)) : w.heap.size ≤ gb464) : w0.heap.size ≤ gb464)); have n6_ := Aside0.mk ((by rw [hg]; exact Nat.ne_of_lt (IsS107.lt (show IsS107 w0 _ g s0_0 s0_1 s0_2 from si HI0.out)) : g ≠ gb464)); have n7_ := Aside0.mk ((by rw [hg]; exact Nat.ne_of_gt (IsS107.lt (show IsS107 w0 _ g s0_0 s0_1 s0_2 from si HI0.out)) : gb464 ≠ g)); clear HI0; clear HK; clear HB; have HI0 := n0_; have HK := n1_; have HB := n2_; have BK464 := n3_; have GW464 := n4_; have GE464 := n5_; have NB0_464 := n6_; have NB464_0 := n7_; clear n0_ n1_ n2_ n3_ n4_ n5_ n6_ n7_; clear hb hbox hg) | ((with_reducible refine gate_callee (f := 60) rfl ?_); refine goesM_ (some 4) rfl rfl Try.func60 #[.pointer (some ⟨g, 0, none⟩), .int .i64 31] ?_; (with_reducible refine (spec_l1Below.calls g s0_0 s0_1 s0_2 31 t465 t466 t467 w0 _ ?side1 ?side2 A2.out).mono ?_); (case side1 => exact si HI0.out); (case side2 => exact bi HB.out); rintro e w6 ⟨rfl, hi, hb, hk⟩; refine ⟨_, rfl, ?_⟩; have n0_ := Aside0.mk (KeepBut.blk hk (g' := gb464) (o := .cells #[.int .i64 0, .int .i64 0] 51 (0, 0)) (kb BK464.out) NB464_0.out (by simp)); have n1_ := Aside0.mk (KeepBut.trans (kp HK.out) hk (.inl rfl)); have n2_ := Aside0.mk (hb); have n3_ := Aside0.mk (hi); clear BK464; clear HK; clear HB; clear HI0; have BK464 := n0_; have HK := n1_; have HB := n2_; have HI0 := n3_; clear n0_ n1_ n2_ n3_; (try clear hb); (try clear hb2); (try clear hk); (try clear hi)) | ((with_reducible refine gate_callee (f := 60) rfl ?_); refine goesM_ (some 7) rfl rfl Try.func60 #[.pointer (some ⟨g, 0, none⟩), .int .i64 256] ?_; (with_reducible refine (spec_l1Below.calls g s0_0 t466 t467 256 t468 t469 t470 w0 _ ?side1 ?side2 A3.out).mono ?_); (case side1 => exact si HI0.out); (case side2 => exact bi HB.out); rintro e w7 ⟨rfl, hi, hb, hk⟩; refine ⟨_, rfl, ?_⟩; have n0_ := Aside0.mk (KeepBut.blk hk (g' := gb464) (o := .cells #[.int .i64 0, .int .i64 0] 51 (0, 0)) (kb BK464.out) NB464_0.out (by simp)); have n1_ := Aside0.mk (KeepBut.trans (kp HK.out) hk (.inl rfl)); have n2_ := Aside0.mk (hb); have n3_ := Aside0.mk (hi); clear BK464; clear HK; clear HB; clear HI0; have BK464 := n0_; have HK := n1_; have HB := n2_; have HI0 := n3_; clear n0_ n1_ n2_ n3_; (try clear hb); (try clear hb2); (try clear hk); (try clear hi)) | ((with_reducible refine gate_dst (N := 8) rfl ?_); refine Kd.R_lit (Kd.int .i64) _ 3 ?hg (N := 8) ?hd (xs := ([0, 1, 5, 127, 128, 255, 256, 8192, 49152, 65535, t468] : List Int)) (inner := [.int .i64 0, .int .i64 1, .int .i64 5, .int .i64 127, .int .i64 128, .int .i64 255, .int .i64 256, .int .i64 8192, .int .i64 49152, .int .i64 65535, .int .i64 t468]) (ok := fun _ => True) (okp := fun _ => True) ?hr ?hp (fun _ hk => hk) trivial (Below.refl _ _) (Nat.le_refl _) (by simp) ?_; (case hd => rfl); (case hg => rfl); (case hr => first | (go_simp; done) | (go_simp; rfl)); (case hp => exact (Reps.one (show Kd.M (Kd.int .i64) _ _ _ 0 [.int .i64 0] from rfl) (Reps.one (show Kd.M (Kd.int .i64) _ _ _ 1 [.int .i64 1] from rfl) (Reps.one (show Kd.M (Kd.int .i64) _ _ _ 5 [.int .i64 5] from rfl) (Reps.one (show Kd.M (Kd.int .i64) _ _ _ 127 [.int .i64 127] from rfl) (Reps.one (show Kd.M (Kd.int .i64) _ _ _ 128 [.int .i64 128] from rfl) (Reps.one (show Kd.M (Kd.int .i64) _ _ _ 255 [.int .i64 255] from rfl) (Reps.one (show Kd.M (Kd.int .i64) _ _ _ 256 [.int .i64 256] from rfl) (Reps.one (show Kd.M (Kd.int .i64) _ _ _ 8192 [.int .i64 8192] from rfl) (Reps.one (show Kd.M (Kd.int .i64) _ _ _ 49152 [.int .i64 49152] from rfl) (Reps.one (show Kd.M (Kd.int .i64) _ _ _ 65535 [.int .i64 65535] from rfl) (Reps.one (show Kd.M (Kd.int .i64) _ _ _ t468 [.int .i64 t468] from rfl) (Reps.none _ _))))))))))))); intro v472 w8 ho9 hb hg_ hnew_; clear hg_ hnew_; (first | rw [← Ny471.out] at ho9 | (simp only [Int.reduceToNat] at ho9; rw [← Ny471.out] at ho9)); have n0_ := Aside0.mk (Kd.R_lower ho9 (keep_size (w := w) (g := g) (row := none) (kp HK.out))); have n1_ := Aside0.mk (IsS107.below (si HI0.out) hb); have n2_ := Aside0.mk (blk_below (g := gb464) (o := .cells #[.int .i64 0, .int .i64 0] 51 (0, 0)) (kb BK464.out) hb); have n3_ := Aside0.mk (KeepBut.trans (kp HK.out) (KeepBut.of_below hb g none) (.inl rfl)); have n4_ := Aside0.mk (below_step (bi HB.out) hb); clear HI0; clear BK464; clear HK; clear HB; have HO473 := n0_; have HI0 := n1_; have BK464 := n2_; have HK := n3_; have HB := n4_; clear n0_ n1_ n2_ n3_ n4_; clear hb ho9; obtain ⟨Ao10, co10, eo10⟩ := Kd.R_slice HO473.out; subst eo10) | ((with_reducible refine gate_callee (f := 70) rfl ?_); refine goesM_ (some 9) rfl rfl Try.func70 #[.pointer (some ⟨g, 0, none⟩), .slice Ao10 y471.length co10] ?_; (with_reducible refine (spec_l1PickInt.calls g s0_0 t469 t470 _ _ y471 t474 t475 t476 w0 _ ?side1 ?side2 ?side3 ?side4 ?side5 A4.out).mono ?_); (case side1 => exact si HI0.out); (case side2 => exact bi HB.out); (case side3 => exact kc (Kd.R_reads' HO473.out).2.2); (case side4 => exact (Kd.R_reads' HO473.out).2.1); (case side5 => exact far_slice (IsS107.own_ne HI0.out HO473.out (by decide))); rintro e w11 ⟨rfl, hi, hb, hk⟩; refine ⟨_, rfl, ?_⟩; have n0_ := Aside0.mk (KeepBut.blk hk (g' := gb464) (o := .cells #[.int .i64 0, .int .i64 0] 51 (0, 0)) (kb BK464.out) NB464_0.out (by simp)); have n1_ := Aside0.mk (Kd.R_mono (Kd.R_keep (IsS107.apart (show IsS107 w0 _ g s0_0 t469 t470 from si HI0.out) (kr HO473.out) (by decide)) hk (fun _ h => h.2)) (fun _ h => h.1)); have n2_ := Aside0.mk (KeepBut.trans (kp HK.out) hk (.inl rfl)); have n3_ := Aside0.mk (hb); have n4_ := Aside0.mk (hi); clear BK464; clear HO473; clear HK; clear HB; clear HI0; have BK464 := n0_; have HO473 := n1_; have HK := n2_; have HB := n3_; have HI0 := n4_; clear n0_ n1_ n2_ n3_ n4_; (try clear hb); (try clear hb2); (try clear hk); (try clear hi); have hnb12 := NB464_0.out; have hnc12 := NB0_464.out; have hcz13_0 : w11.cell? ⟨gb464, 0, none⟩ = some (.int .i64 0) := cl BK464 0; have hcz13_1 : w11.cell? ⟨gb464, 1, none⟩ = some (.int .i64 0) := cl BK464 1; have hfz13_0 := blk_frozen BK464.out 0; have hfz13_1 := blk_frozen BK464.out 1))
 refine bodyPost_ret (results_cell_row rfl _ _ gb464 51 #[.int .i64 t465, .int .i64 t474] (0, 0) _ rfl (by (with_reducible repeat (first | refine blk_drewN ?_ _ | refine blk_drew ?_ | refine blk_alloc ?_ _)); refine blk_put (cs := #[.int .i64 t465, .int .i64 0]) ?_ 1 _ rfl; (with_reducible repeat (first | refine blk_drewN ?_ _ | refine blk_drew ?_ | refine blk_alloc ?_ _)); refine blk_put (cs := #[.int .i64 0, .int .i64 0]) ?_ 0 _ rfl; (with_reducible repeat (first | refine blk_drewN ?_ _ | refine blk_drew ?_ | refine blk_alloc ?_ _)); exact BK464.out) Try.underlying51 rfl (by kernel_rfl)) rfl ?_
 exact ⟨rt, si HI0.out, bi HB.out, kp HK.out⟩

/-! ### spec_l1DrawInt: function 75 -/
def spec_l1DrawInt.f (s0_0 : List Int) (s0_1 : Int) (s0_2 : Int) : Option (Int × Int × Int) := (spec_l1Once.f s0_0 s0_1 s0_2 9).bind fun bt477 => (if bt477.1 = true then ((spec_l1PickInt.f s0_0 bt477.2.1 bt477.2.2 (([(-1), 256, 65535, 65536, 9223372036854775807, (-9223372036854775808), 511] : List Int))).bind fun bt483 => (some (bt483.1, bt483.2.1, bt483.2.2))) else ((spec_l1Below.f s0_0 bt477.2.1 bt477.2.2 256).bind fun bt486 => (some (bt486.1, bt486.2.1, bt486.2.2))))
set_option maxHeartbeats 8000000 in
set_option maxRecDepth 100000 in
theorem spec_l1DrawInt.calls (g : Nat) (s0_0 : List Int) (s0_1 : Int) (s0_2 : Int) (r1 : Int) (r2 : Int) (r3 : Int) (w0 w : World) (hI : IsS107 w0 w g s0_0 s0_1 s0_2) (hB : Below w0.heap.size w0 w) (h : spec_l1DrawInt.f s0_0 s0_1 s0_2 = some (r1, r2, r3)) :
  Calls Try.prog 75 #[.pointer (some ⟨g, 0, none⟩)] w fun e w' => e = .returned (.int .i64 r1) ∧ IsS107 w0 w' g s0_0 r2 r3 ∧ Below w0.heap.size w0 w' ∧ KeepBut w w' g none := by
 have HI0 := Aside0.mk hI
 have HK := Aside0.mk (KeepBut.refl w g none)
 have HL := Aside0.mk hB.size
 clear hI
 have HW0 := Aside0.mk hB.size
 have HB := Aside0.mk hB
 clear hB
 have H : ((spec_l1Once.f s0_0 s0_1 s0_2 9).bind fun bt477 => (if bt477.1 = true then ((spec_l1PickInt.f s0_0 bt477.2.1 bt477.2.2 (([(-1), 256, 65535, 65536, 9223372036854775807, (-9223372036854775808), 511] : List Int))).bind fun bt483 => (some (bt483.1, bt483.2.1, bt483.2.2))) else ((spec_l1Below.f s0_0 bt477.2.1 bt477.2.2 256).bind fun bt486 => (some (bt486.1, bt486.2.1, bt486.2.2))))) = some (r1, r2, r3) := h
 clear h
 replace H := Option.bind_eq_some_iff.mp H
 obtain ⟨⟨t477, t478, t479⟩, A20, H⟩ := H
 replace H : (if t477 = true then ((spec_l1PickInt.f s0_0 t478 t479 (([(-1), 256, 65535, 65536, 9223372036854775807, (-9223372036854775808), 511] : List Int))).bind fun bt483 => (some (bt483.1, bt483.2.1, bt483.2.2))) else ((spec_l1Below.f s0_0 t478 t479 256).bind fun bt486 => (some (bt486.1, bt486.2.1, bt486.2.2)))) = some (r1, r2, r3) := H
 have A2 := Aside0.mk A20
 clear A20
 by_cases c3 : t477 = true
 ·subst c3
  have H1 : ((spec_l1PickInt.f s0_0 t478 t479 (([(-1), 256, 65535, 65536, 9223372036854775807, (-9223372036854775808), 511] : List Int))).bind fun bt483 => (some (bt483.1, bt483.2.1, bt483.2.2))) = some (r1, r2, r3) := by rw [if_pos rfl] at H; exact H
  clear H
  have H := H1
  clear H1
  obtain ⟨y480, hy480⟩ : ∃ y_ : List Int, y_ = (([(-1), 256, 65535, 65536, 9223372036854775807, (-9223372036854775808), 511] : List Int)) := ⟨_, rfl⟩
  replace H : ((spec_l1PickInt.f s0_0 t478 t479 y480).bind fun bt483 => (some (bt483.1, bt483.2.1, bt483.2.2))) = some (r1, r2, r3) := by first | (rw [hy480]; with_reducible exact H) | (have H2_ := (Option.bind_some _ _).symm.trans H; rw [hy480]; with_reducible exact H2_) | (have H2_ := (Option.bind_some _ _).symm.trans H; with_reducible exact H2_) | with_reducible exact H | (rw [hy480]; exact H) | exact H
  have Ny480 := Aside0.mk hy480
  clear hy480
  replace H := Option.bind_eq_some_iff.mp H
  obtain ⟨⟨t483, t484, t485⟩, A40, H⟩ := H
  replace H : (some (t483, t484, t485)) = some (r1, r2, r3) := H
  have A4 := Aside0.mk A40
  clear A40
  simp only [Option.some.injEq, Prod.mk.injEq] at H
  obtain ⟨rfl, rfl, rfl⟩ := H
  go_enter Try.func75, Try.ntmps75
  go_wp2_with (first | ((with_reducible refine gate_callee (f := 58) rfl ?_); refine goesM_ (some 4) rfl rfl Try.func58 #[.pointer (some ⟨g, 0, none⟩), .int .i64 9] ?_; (with_reducible refine (spec_l1Once.calls g s0_0 s0_1 s0_2 9 true t478 t479 w0 _ ?side1 ?side2 A2.out).mono ?_); (case side1 => exact si HI0.out); (case side2 => exact bi HB.out); rintro e w5 ⟨rfl, hi, hb, hk⟩; refine ⟨_, rfl, ?_⟩; have n0_ := Aside0.mk (KeepBut.trans (kp HK.out) hk (.inl rfl)); have n1_ := Aside0.mk (hb); have n2_ := Aside0.mk (hi); clear HK; clear HB; clear HI0; have HK := n0_; have HB := n1_; have HI0 := n2_; clear n0_ n1_ n2_; (try clear hb); (try clear hb2); (try clear hk); (try clear hi)) | ((with_reducible refine gate_dst (N := 6) rfl ?_); refine Kd.R_lit (Kd.int .i64) _ 3 ?hg (N := 6) ?hd (xs := ([(-1), 256, 65535, 65536, 9223372036854775807, (-9223372036854775808), 511] : List Int)) (inner := [.int .i64 (-1), .int .i64 256, .int .i64 65535, .int .i64 65536, .int .i64 9223372036854775807, .int .i64 (-9223372036854775808), .int .i64 511]) (ok := fun _ => True) (okp := fun _ => True) ?hr ?hp (fun _ hk => hk) trivial (Below.refl _ _) (Nat.le_refl _) (by simp) ?_; (case hd => rfl); (case hg => rfl); (case hr => first | (go_simp; done) | (go_simp; rfl)); (case hp => exact (Reps.one (show Kd.M (Kd.int .i64) _ _ _ (-1) [.int .i64 (-1)] from rfl) (Reps.one (show Kd.M (Kd.int .i64) _ _ _ 256 [.int .i64 256] from rfl) (Reps.one (show Kd.M (Kd.int .i64) _ _ _ 65535 [.int .i64 65535] from rfl) (Reps.one (show Kd.M (Kd.int .i64) _ _ _ 65536 [.int .i64 65536] from rfl) (Reps.one (show Kd.M (Kd.int .i64) _ _ _ 9223372036854775807 [.int .i64 9223372036854775807] from rfl) (Reps.one (show Kd.M (Kd.int .i64) _ _ _ (-9223372036854775808) [.int .i64 (-9223372036854775808)] from rfl) (Reps.one (show Kd.M (Kd.int .i64) _ _ _ 511 [.int .i64 511] from rfl) (Reps.none _ _))))))))); intro v481 w6 ho7 hb hg_ hnew_; clear hg_ hnew_; (first | rw [← Ny480.out] at ho7 | (simp only [Int.reduceToNat] at ho7; rw [← Ny480.out] at ho7)); have n0_ := Aside0.mk (Kd.R_lower ho7 (keep_size (w := w) (g := g) (row := none) (kp HK.out))); have n1_ := Aside0.mk (IsS107.below (si HI0.out) hb); have n2_ := Aside0.mk (KeepBut.trans (kp HK.out) (KeepBut.of_below hb g none) (.inl rfl)); have n3_ := Aside0.mk (below_step (bi HB.out) hb); clear HI0; clear HK; clear HB; have HO482 := n0_; have HI0 := n1_; have HK := n2_; have HB := n3_; clear n0_ n1_ n2_ n3_; clear hb ho7; obtain ⟨Ao8, co8, eo8⟩ := Kd.R_slice HO482.out; subst eo8) | ((with_reducible refine gate_callee (f := 70) rfl ?_); refine goesM_ (some 7) rfl rfl Try.func70 #[.pointer (some ⟨g, 0, none⟩), .slice Ao8 y480.length co8] ?_; (with_reducible refine (spec_l1PickInt.calls g s0_0 t478 t479 _ _ y480 t483 t484 t485 w0 _ ?side1 ?side2 ?side3 ?side4 ?side5 A4.out).mono ?_); (case side1 => exact si HI0.out); (case side2 => exact bi HB.out); (case side3 => exact kc (Kd.R_reads' HO482.out).2.2); (case side4 => exact (Kd.R_reads' HO482.out).2.1); (case side5 => exact far_slice (IsS107.own_ne HI0.out HO482.out (by decide))); rintro e w9 ⟨rfl, hi, hb, hk⟩; refine ⟨_, rfl, ?_⟩; have n0_ := Aside0.mk (Kd.R_mono (Kd.R_keep (IsS107.apart (show IsS107 w0 _ g s0_0 t478 t479 from si HI0.out) (kr HO482.out) (by decide)) hk (fun _ h => h.2)) (fun _ h => h.1)); have n1_ := Aside0.mk (KeepBut.trans (kp HK.out) hk (.inl rfl)); have n2_ := Aside0.mk (hb); have n3_ := Aside0.mk (hi); clear HO482; clear HK; clear HB; clear HI0; have HO482 := n0_; have HK := n1_; have HB := n2_; have HI0 := n3_; clear n0_ n1_ n2_ n3_; (try clear hb); (try clear hb2); (try clear hk); (try clear hi)))
  go_ret
  exact ⟨rt, si HI0.out, bi HB.out, kp HK.out⟩
 ·replace c3 := Bool.eq_false_iff.mpr c3
  subst c3
  have H1 : ((spec_l1Below.f s0_0 t478 t479 256).bind fun bt486 => (some (bt486.1, bt486.2.1, bt486.2.2))) = some (r1, r2, r3) := by rw [if_neg (show ¬ (false = true) by decide)] at H; exact H
  clear H
  have H := H1
  clear H1
  replace H := Option.bind_eq_some_iff.mp H
  obtain ⟨⟨t486, t487, t488⟩, A100, H⟩ := H
  replace H : (some (t486, t487, t488)) = some (r1, r2, r3) := H
  have A10 := Aside0.mk A100
  clear A100
  simp only [Option.some.injEq, Prod.mk.injEq] at H
  obtain ⟨rfl, rfl, rfl⟩ := H
  go_enter Try.func75, Try.ntmps75
  go_wp2_with (first | ((with_reducible refine gate_callee (f := 58) rfl ?_); refine goesM_ (some 4) rfl rfl Try.func58 #[.pointer (some ⟨g, 0, none⟩), .int .i64 9] ?_; (with_reducible refine (spec_l1Once.calls g s0_0 s0_1 s0_2 9 false t478 t479 w0 _ ?side1 ?side2 A2.out).mono ?_); (case side1 => exact si HI0.out); (case side2 => exact bi HB.out); rintro e w11 ⟨rfl, hi, hb, hk⟩; refine ⟨_, rfl, ?_⟩; have n0_ := Aside0.mk (KeepBut.trans (kp HK.out) hk (.inl rfl)); have n1_ := Aside0.mk (hb); have n2_ := Aside0.mk (hi); clear HK; clear HB; clear HI0; have HK := n0_; have HB := n1_; have HI0 := n2_; clear n0_ n1_ n2_; (try clear hb); (try clear hb2); (try clear hk); (try clear hi)) | ((with_reducible refine gate_callee (f := 60) rfl ?_); refine goesM_ (some 9) rfl rfl Try.func60 #[.pointer (some ⟨g, 0, none⟩), .int .i64 256] ?_; (with_reducible refine (spec_l1Below.calls g s0_0 t478 t479 256 t486 t487 t488 w0 _ ?side1 ?side2 A10.out).mono ?_); (case side1 => exact si HI0.out); (case side2 => exact bi HB.out); rintro e w12 ⟨rfl, hi, hb, hk⟩; refine ⟨_, rfl, ?_⟩; have n0_ := Aside0.mk (KeepBut.trans (kp HK.out) hk (.inl rfl)); have n1_ := Aside0.mk (hb); have n2_ := Aside0.mk (hi); clear HK; clear HB; clear HI0; have HK := n0_; have HB := n1_; have HI0 := n2_; clear n0_ n1_ n2_; (try clear hb); (try clear hb2); (try clear hk); (try clear hi)))
  go_ret
  exact ⟨rt, si HI0.out, bi HB.out, kp HK.out⟩

/-! ### spec_WithFlags: function 95 -/
def spec_WithFlags.f (a0_0 : Int) (a0_1 : Int) (a0_2 : Int) (a0_3 : Int) (a0_4 : Bool) (a0_5 : Bool) (a0_6 : Bool) (a0_7 : Bool) (a1 : Int) : Option (Int × Int × Int × Int × Bool × Bool × Bool × Bool) := some (a0_0, a0_1, a0_2, a0_3, ((Go.bits .and .i64 a1 2) != 0), ((Go.bits .and .i64 a1 128) != 0), ((Go.bits .and .i64 a1 1) != 0), ((Go.bits .and .i64 a1 4) != 0))
set_option maxHeartbeats 8000000 in
set_option maxRecDepth 100000 in
theorem spec_WithFlags.calls (a0_0 : Int) (a0_1 : Int) (a0_2 : Int) (a0_3 : Int) (a0_4 : Bool) (a0_5 : Bool) (a0_6 : Bool) (a0_7 : Bool) (a1 : Int) (r1 : Int) (r2 : Int) (r3 : Int) (r4 : Int) (r5 : Bool) (r6 : Bool) (r7 : Bool) (r8 : Bool) (w : World) (h : spec_WithFlags.f a0_0 a0_1 a0_2 a0_3 a0_4 a0_5 a0_6 a0_7 a1 = some (r1, r2, r3, r4, r5, r6, r7, r8)) :
  Calls Try.prog 95 #[.agg #[.int .i64 a0_0, .int .i64 a0_1, .int .i64 a0_2, .int .i64 a0_3, .bool a0_4, .bool a0_5, .bool a0_6, .bool a0_7], .int .i64 a1] w fun e w' => e = .returned (.agg #[.int .i64 r1, .int .i64 r2, .int .i64 r3, .int .i64 r4, .bool r5, .bool r6, .bool r7, .bool r8]) ∧ Below w.heap.size w w' := by
 have hu55 := Try.underlying55
 have HB := Aside0.mk (Below.refl w.heap.size w)
 have H : (some (a0_0, a0_1, a0_2, a0_3, ((Go.bits .and .i64 a1 2) != 0), ((Go.bits .and .i64 a1 128) != 0), ((Go.bits .and .i64 a1 1) != 0), ((Go.bits .and .i64 a1 4) != 0))) = some (r1, r2, r3, r4, r5, r6, r7, r8) := h
 clear h
 simp only [Option.some.injEq, Prod.mk.injEq] at H
 obtain ⟨rfl, rfl, rfl, rfl, rfl, rfl, rfl, rfl⟩ := H
 go_enter Try.func95, Try.ntmps95
 go_wp2_with (first | ((with_reducible refine gate_dst (N := 2) rfl ?_); refine bx (N := 2) (cs := #[.int .i64 a0_0, .int .i64 a0_1, .int .i64 a0_2, .int .i64 a0_3, .bool a0_4, .bool a0_5, .bool a0_6, .bool a0_7]) (t := 55) ?_; intro gb489 hg w3 hbox hb; have n0_ := Aside0.mk (below_step (bw HB.out) hb); have n1_ := Aside0.mk (hbox); have n2_ := Aside0.mk ((gs hg (bw HB.out))); have n3_ := Aside0.mk ((gs hg (bw HB.out))); clear HB; have HB := n0_; have BK489 := n1_; have GW489 := n2_; have GE489 := n3_; clear n0_ n1_ n2_ n3_; clear hb hbox hg) | ((with_reducible refine gate_dst (N := 4) rfl ?_); refine bx (N := 4) (cs := #[.int .i64 0, .int .i64 0, .int .i64 0, .int .i64 0, .bool false, .bool false, .bool false, .bool false]) (t := 55) ?_; intro gb490 hg w4 hbox hb; have n0_ := Aside0.mk (blk_below (g := gb489) (o := .cells #[.int .i64 a0_0, .int .i64 a0_1, .int .i64 a0_2, .int .i64 a0_3, .bool a0_4, .bool a0_5, .bool a0_6, .bool a0_7] 55 (0, 0)) (kb BK489.out) hb); have n1_ := Aside0.mk (below_step (bw HB.out) hb); have n2_ := Aside0.mk (hbox); have n3_ := Aside0.mk ((gs hg (bw HB.out))); have n4_ := Aside0.mk ((gs hg (bw HB.out))); have n5_ := Aside0.mk ((ga hg BK489.out)); have n6_ := Aside0.mk ((gc hg BK489.out)); clear BK489; clear HB; have BK489 := n0_; have HB := n1_; have BK490 := n2_; have GW490 := n3_; have GE490 := n4_; have NB489_490 := n5_; have NB490_489 := n6_; clear n0_ n1_ n2_ n3_ n4_ n5_ n6_; clear hb hbox hg; have hnb5 := NB489_490.out; have hnc5 := NB490_489.out; have hcz6_0 : w4.cell? ⟨gb489, 0, none⟩ = some (.int .i64 a0_0) := cl BK489 0; have hcz6_1 : w4.cell? ⟨gb489, 1, none⟩ = some (.int .i64 a0_1) := cl BK489 1; have hcz6_2 : w4.cell? ⟨gb489, 2, none⟩ = some (.int .i64 a0_2) := cl BK489 2; have hcz6_3 : w4.cell? ⟨gb489, 3, none⟩ = some (.int .i64 a0_3) := cl BK489 3; have hcz6_4 : w4.cell? ⟨gb489, 4, none⟩ = some (.bool a0_4) := cl BK489 4; have hcz6_5 : w4.cell? ⟨gb489, 5, none⟩ = some (.bool a0_5) := cl BK489 5; have hcz6_6 : w4.cell? ⟨gb489, 6, none⟩ = some (.bool a0_6) := cl BK489 6; have hcz6_7 : w4.cell? ⟨gb489, 7, none⟩ = some (.bool a0_7) := cl BK489 7; have hfz6_0 := blk_frozen BK489.out 0; have hfz6_1 := blk_frozen BK489.out 1; have hfz6_2 := blk_frozen BK489.out 2; have hfz6_3 := blk_frozen BK489.out 3; have hfz6_4 := blk_frozen BK489.out 4; have hfz6_5 := blk_frozen BK489.out 5; have hfz6_6 := blk_frozen BK489.out 6; have hfz6_7 := blk_frozen BK489.out 7; have hcz7_0 : w4.cell? ⟨gb490, 0, none⟩ = some (.int .i64 0) := cl BK490 0; have hcz7_1 : w4.cell? ⟨gb490, 1, none⟩ = some (.int .i64 0) := cl BK490 1; have hcz7_2 : w4.cell? ⟨gb490, 2, none⟩ = some (.int .i64 0) := cl BK490 2; have hcz7_3 : w4.cell? ⟨gb490, 3, none⟩ = some (.int .i64 0) := cl BK490 3; have hcz7_4 : w4.cell? ⟨gb490, 4, none⟩ = some (.bool false) := cl BK490 4; have hcz7_5 : w4.cell? ⟨gb490, 5, none⟩ = some (.bool false) := cl BK490 5; have hcz7_6 : w4.cell? ⟨gb490, 6, none⟩ = some (.bool false) := cl BK490 6; have hcz7_7 : w4.cell? ⟨gb490, 7, none⟩ = some (.bool false) := cl BK490 7; have hfz7_0 := blk_frozen BK490.out 0; have hfz7_1 := blk_frozen BK490.out 1; have hfz7_2 := blk_frozen BK490.out 2; have hfz7_3 := blk_frozen BK490.out 3; have hfz7_4 := blk_frozen BK490.out 4; have hfz7_5 := blk_frozen BK490.out 5; have hfz7_6 := blk_frozen BK490.out 6; have hfz7_7 := blk_frozen BK490.out 7))
 refine bodyPost_ret (results_cell_row rfl _ _ gb490 55 #[.int .i64 a0_0, .int .i64 a0_1, .int .i64 a0_2, .int .i64 a0_3, .bool ((Go.bits .and .i64 a1 2) != 0), .bool ((Go.bits .and .i64 a1 128) != 0), .bool ((Go.bits .and .i64 a1 1) != 0), .bool ((Go.bits .and .i64 a1 4) != 0)] (0, 0) _ rfl (by (with_reducible repeat (first | refine blk_drewN ?_ _ | refine blk_drew ?_ | refine blk_alloc ?_ _)); refine blk_put (cs := #[.int .i64 a0_0, .int .i64 a0_1, .int .i64 a0_2, .int .i64 a0_3, .bool ((Go.bits .and .i64 a1 2) != 0), .bool ((Go.bits .and .i64 a1 128) != 0), .bool ((Go.bits .and .i64 a1 1) != 0), .bool false]) ?_ 7 _ rfl; (with_reducible repeat (first | refine blk_drewN ?_ _ | refine blk_drew ?_ | refine blk_alloc ?_ _)); refine blk_put (cs := #[.int .i64 a0_0, .int .i64 a0_1, .int .i64 a0_2, .int .i64 a0_3, .bool ((Go.bits .and .i64 a1 2) != 0), .bool ((Go.bits .and .i64 a1 128) != 0), .bool false, .bool false]) ?_ 6 _ rfl; (with_reducible repeat (first | refine blk_drewN ?_ _ | refine blk_drew ?_ | refine blk_alloc ?_ _)); refine blk_put (cs := #[.int .i64 a0_0, .int .i64 a0_1, .int .i64 a0_2, .int .i64 a0_3, .bool ((Go.bits .and .i64 a1 2) != 0), .bool false, .bool false, .bool false]) ?_ 5 _ rfl; (with_reducible repeat (first | refine blk_drewN ?_ _ | refine blk_drew ?_ | refine blk_alloc ?_ _)); refine blk_put (cs := #[.int .i64 a0_0, .int .i64 a0_1, .int .i64 a0_2, .int .i64 a0_3, .bool false, .bool false, .bool false, .bool false]) ?_ 4 _ rfl; (with_reducible repeat (first | refine blk_drewN ?_ _ | refine blk_drew ?_ | refine blk_alloc ?_ _)); refine blk_put (cs := #[.int .i64 a0_0, .int .i64 a0_1, .int .i64 a0_2, .int .i64 0, .bool false, .bool false, .bool false, .bool false]) ?_ 3 _ rfl; (with_reducible repeat (first | refine blk_drewN ?_ _ | refine blk_drew ?_ | refine blk_alloc ?_ _)); refine blk_put (cs := #[.int .i64 a0_0, .int .i64 a0_1, .int .i64 0, .int .i64 0, .bool false, .bool false, .bool false, .bool false]) ?_ 2 _ rfl; (with_reducible repeat (first | refine blk_drewN ?_ _ | refine blk_drew ?_ | refine blk_alloc ?_ _)); refine blk_put (cs := #[.int .i64 a0_0, .int .i64 0, .int .i64 0, .int .i64 0, .bool false, .bool false, .bool false, .bool false]) ?_ 1 _ rfl; (with_reducible repeat (first | refine blk_drewN ?_ _ | refine blk_drew ?_ | refine blk_alloc ?_ _)); refine blk_put (cs := #[.int .i64 0, .int .i64 0, .int .i64 0, .int .i64 0, .bool false, .bool false, .bool false, .bool false]) ?_ 0 _ rfl; (with_reducible repeat (first | refine blk_drewN ?_ _ | refine blk_drew ?_ | refine blk_alloc ?_ _)); refine blk_far ?_ NB490_489.out _; (with_reducible repeat (first | refine blk_drewN ?_ _ | refine blk_drew ?_ | refine blk_alloc ?_ _)); refine blk_far ?_ NB490_489.out _; (with_reducible repeat (first | refine blk_drewN ?_ _ | refine blk_drew ?_ | refine blk_alloc ?_ _)); refine blk_far ?_ NB490_489.out _; (with_reducible repeat (first | refine blk_drewN ?_ _ | refine blk_drew ?_ | refine blk_alloc ?_ _)); refine blk_far ?_ NB490_489.out _; (with_reducible repeat (first | refine blk_drewN ?_ _ | refine blk_drew ?_ | refine blk_alloc ?_ _)); exact BK490.out) Try.underlying55 rfl (by kernel_rfl)) rfl ?_
 exact ⟨rt, bw HB.out⟩

end Go.Proofs.Ytmkccgbfgebfbaa.MFnFetched
