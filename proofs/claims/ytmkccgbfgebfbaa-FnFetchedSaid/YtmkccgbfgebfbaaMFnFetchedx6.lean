/- Walks of functions that the law FnFetched reaches: each comes to just what its Lean function says. (Begun as the texts that print.sh wrote for this claim; some of them, and those that it does not write, are mine.) No condition. -/
import Derived.Test.YtmkccgbfgebfbaaMFnFetchedx5
namespace Go.Proofs.Ytmkccgbfgebfbaa.MFnFetched
open Go.RowKit Go.Proofs.YtmkccgbfgebfbaaW.PrintWords Go.Proofs.YtmkccgbfgebfbaaW.PrintLast Go.Proofs.YtmkccgbfgebfbaaW.PrintMore
attribute [local go_sem] max2_int min2_int max_two min_two max_three min_three max_four min_four   -- for this text's walks alone
set_option linter.unusedVariables false
set_option linter.unusedSimpArgs false

/-! ### spec_Access: function 42 -/
mutual
def spec_Access.j0 : Nat → Int → Int → Bool → Int → Int → Int → Int → Int → Int → Bool → Bool → Bool → Bool → Option (Int × Int × Int)
 | 0, _, _, _, _, _, _, _, _, _, _, _, _, _ => none
 | k + 1, x7, x8, x23, x598000, x598001, x599000, x599001, x599002, x599003, x599004, x599005, x599006, x599007 => if x23 = true then (spec_Access.j1 k x7 (wrap64 (x598001 + x599001)) x599000 x599001 x599002 x599003 x599004 x599005 x599006 x599007) else (spec_Access.j1 k x7 x8 x599000 x599001 x599002 x599003 x599004 x599005 x599006 x599007)
def spec_Access.j1 : Nat → Int → Int → Int → Int → Int → Int → Bool → Bool → Bool → Bool → Option (Int × Int × Int)
 | 0, _, _, _, _, _, _, _, _, _, _ => none
 | k + 1, x7, x8, x599000, x599001, x599002, x599003, x599004, x599005, x599006, x599007 => if x7 = 1 then ((spec_Addr.f x8).bind fun t600 => (some (x7, t600, 0))) else ((spec_Addr.f x8).bind fun t601 => ((spec_Byte.f x599000).bind fun t602 => (some (x7, t601, t602))))
end
def spec_Access.f (k : Nat) (a0_0 : Int) (a0_1 : Int) (a1_0 : Int) (a1_1 : Int) (a1_2 : Int) (a1_3 : Int) (a1_4 : Bool) (a1_5 : Bool) (a1_6 : Bool) (a1_7 : Bool) : Option (Int × Int × Int) := (spec_OpAccess.f k a0_0).bind fun t599 => (if t599 = 0 then (some (0, 0, 0)) else (if a0_0 = 14 then (spec_Access.j0 k t599 a0_1 true a0_0 a0_1 a1_0 a1_1 a1_2 a1_3 a1_4 a1_5 a1_6 a1_7) else (spec_Access.j0 k t599 a0_1 (a0_0 == 15) a0_0 a0_1 a1_0 a1_1 a1_2 a1_3 a1_4 a1_5 a1_6 a1_7)))
set_option maxHeartbeats 8000000 in
set_option maxRecDepth 100000 in
theorem spec_Access.calls (k : Nat) (a0_0 : Int) (a0_1 : Int) (a1_0 : Int) (a1_1 : Int) (a1_2 : Int) (a1_3 : Int) (a1_4 : Bool) (a1_5 : Bool) (a1_6 : Bool) (a1_7 : Bool) (r1 : Int) (r2 : Int) (r3 : Int) (w : World) (h : spec_Access.f k a0_0 a0_1 a1_0 a1_1 a1_2 a1_3 a1_4 a1_5 a1_6 a1_7 = some (r1, r2, r3)) :
  Calls Try.prog 42 #[.agg #[.int .i64 a0_0, .int .i64 a0_1], .agg #[.int .i64 a1_0, .int .i64 a1_1, .int .i64 a1_2, .int .i64 a1_3, .bool a1_4, .bool a1_5, .bool a1_6, .bool a1_7]] w fun e w' => e = .returned (.tuple #[.int .i64 r1, .int .i64 r2, .int .i64 r3]) ∧ Below w.heap.size w w' := by
 have hu51 := Try.underlying51
 have hu55 := Try.underlying55
 have HB := Aside0.mk (Below.refl w.heap.size w)
 have H : ((spec_OpAccess.f k a0_0).bind fun t599 => (if t599 = 0 then (some (0, 0, 0)) else (if a0_0 = 14 then (spec_Access.j0 k t599 a0_1 true a0_0 a0_1 a1_0 a1_1 a1_2 a1_3 a1_4 a1_5 a1_6 a1_7) else (spec_Access.j0 k t599 a0_1 (a0_0 == 15) a0_0 a0_1 a1_0 a1_1 a1_2 a1_3 a1_4 a1_5 a1_6 a1_7)))) = some (r1, r2, r3) := h
 clear h
 replace H := Option.bind_eq_some_iff.mp H
 obtain ⟨t599, A30, H⟩ := H
 replace H : (if t599 = 0 then (some (0, 0, 0)) else (if a0_0 = 14 then (spec_Access.j0 k t599 a0_1 true a0_0 a0_1 a1_0 a1_1 a1_2 a1_3 a1_4 a1_5 a1_6 a1_7) else (spec_Access.j0 k t599 a0_1 (a0_0 == 15) a0_0 a0_1 a1_0 a1_1 a1_2 a1_3 a1_4 a1_5 a1_6 a1_7))) = some (r1, r2, r3) := H
 have A3 := Aside0.mk A30
 clear A30
 by_cases c4 : t599 = 0
 ·rw [if_pos c4] at H
  have c4b0 : (t599 == 0) = true := beq_iff_eq.mpr c4
  have c4b1 : (t599 != 0) = false := bne_eq_false_iff_eq.mpr c4
  clear c4
  simp only [Option.some.injEq, Prod.mk.injEq] at H
  obtain ⟨rfl, rfl, rfl⟩ := H
  go_enter Try.func42, Try.ntmps42
  go_wp2_with (first | ((with_reducible refine gate_dst (N := 2) rfl ?_); refine bx (N := 2) (cs := #[.int .i64 a0_0, .int .i64 a0_1]) (t := 51) ?_; intro gb597 hg w5 hbox hb; have n0_ := Aside0.mk (below_step (bw HB.out) hb); have n1_ := Aside0.mk (hbox); have n2_ := Aside0.mk ((gs hg (bw HB.out))); have n3_ := Aside0.mk ((gs hg (bw HB.out))); clear HB; have HB := n0_; have BK597 := n1_; have GW597 := n2_; have GE597 := n3_; clear n0_ n1_ n2_ n3_; clear hb hbox hg) | ((with_reducible refine gate_dst (N := 3) rfl ?_); refine bx (N := 3) (cs := #[.int .i64 a1_0, .int .i64 a1_1, .int .i64 a1_2, .int .i64 a1_3, .bool a1_4, .bool a1_5, .bool a1_6, .bool a1_7]) (t := 55) ?_; intro gb598 hg w6 hbox hb; have n0_ := Aside0.mk (blk_below (g := gb597) (o := .cells #[.int .i64 a0_0, .int .i64 a0_1] 51 (0, 0)) (kb BK597.out) hb); have n1_ := Aside0.mk (below_step (bw HB.out) hb); have n2_ := Aside0.mk (hbox); have n3_ := Aside0.mk ((gs hg (bw HB.out))); have n4_ := Aside0.mk ((gs hg (bw HB.out))); have n5_ := Aside0.mk ((ga hg BK597.out)); have n6_ := Aside0.mk ((gc hg BK597.out)); clear BK597; clear HB; have BK597 := n0_; have HB := n1_; have BK598 := n2_; have GW598 := n3_; have GE598 := n4_; have NB597_598 := n5_; have NB598_597 := n6_; clear n0_ n1_ n2_ n3_ n4_ n5_ n6_; clear hb hbox hg; have hnb7 := NB597_598.out; have hnc7 := NB598_597.out; have hcz8_0 : w6.cell? ⟨gb597, 0, none⟩ = some (.int .i64 a0_0) := cl BK597 0; have hcz8_1 : w6.cell? ⟨gb597, 1, none⟩ = some (.int .i64 a0_1) := cl BK597 1; have hfz8_0 := blk_frozen BK597.out 0; have hfz8_1 := blk_frozen BK597.out 1) | (go_at_call 85; (with_reducible refine (spec_OpAccess.calls k a0_0 t599 _ A3.out).mono ?_); rintro e w' ⟨rfl, ⟨nd, rfl⟩⟩; (try first | exact ⟨rfl, _, World.drewN_drewN _ _ _⟩ | exact ⟨rfl, _, Eq.trans (World.drewN_drewN _ _ _) (congrArg (World.drewN _) (Nat.add_assoc _ _ _))⟩)))
  repeat (go_quiet (first | ((with_reducible refine gate_dst (N := 2) rfl ?_); refine bx (N := 2) (cs := #[.int .i64 a0_0, .int .i64 a0_1]) (t := 51) ?_; intro gb597 hg w5 hbox hb; have n0_ := Aside0.mk (below_step (bw HB.out) hb); have n1_ := Aside0.mk (hbox); have n2_ := Aside0.mk ((gs hg (bw HB.out))); have n3_ := Aside0.mk ((gs hg (bw HB.out))); clear HB; have HB := n0_; have BK597 := n1_; have GW597 := n2_; have GE597 := n3_; clear n0_ n1_ n2_ n3_; clear hb hbox hg) | ((with_reducible refine gate_dst (N := 3) rfl ?_); refine bx (N := 3) (cs := #[.int .i64 a1_0, .int .i64 a1_1, .int .i64 a1_2, .int .i64 a1_3, .bool a1_4, .bool a1_5, .bool a1_6, .bool a1_7]) (t := 55) ?_; intro gb598 hg w6 hbox hb; have n0_ := Aside0.mk (blk_below (g := gb597) (o := .cells #[.int .i64 a0_0, .int .i64 a0_1] 51 (0, 0)) (kb BK597.out) hb); have n1_ := Aside0.mk (below_step (bw HB.out) hb); have n2_ := Aside0.mk (hbox); have n3_ := Aside0.mk ((gs hg (bw HB.out))); have n4_ := Aside0.mk ((gs hg (bw HB.out))); have n5_ := Aside0.mk ((ga hg BK597.out)); have n6_ := Aside0.mk ((gc hg BK597.out)); clear BK597; clear HB; have BK597 := n0_; have HB := n1_; have BK598 := n2_; have GW598 := n3_; have GE598 := n4_; have NB597_598 := n5_; have NB598_597 := n6_; clear n0_ n1_ n2_ n3_ n4_ n5_ n6_; clear hb hbox hg; have hnb7 := NB597_598.out; have hnc7 := NB598_597.out; have hcz8_0 : w6.cell? ⟨gb597, 0, none⟩ = some (.int .i64 a0_0) := cl BK597 0; have hcz8_1 : w6.cell? ⟨gb597, 1, none⟩ = some (.int .i64 a0_1) := cl BK597 1; have hfz8_0 := blk_frozen BK597.out 0; have hfz8_1 := blk_frozen BK597.out 1) | (go_at_call 85; (with_reducible refine (spec_OpAccess.calls k a0_0 t599 _ A3.out).mono ?_); rintro e w' ⟨rfl, ⟨nd, rfl⟩⟩; (try first | exact ⟨rfl, _, World.drewN_drewN _ _ _⟩ | exact ⟨rfl, _, Eq.trans (World.drewN_drewN _ _ _) (congrArg (World.drewN _) (Nat.add_assoc _ _ _))⟩))); try go_wp2_with (first | ((with_reducible refine gate_dst (N := 2) rfl ?_); refine bx (N := 2) (cs := #[.int .i64 a0_0, .int .i64 a0_1]) (t := 51) ?_; intro gb597 hg w5 hbox hb; have n0_ := Aside0.mk (below_step (bw HB.out) hb); have n1_ := Aside0.mk (hbox); have n2_ := Aside0.mk ((gs hg (bw HB.out))); have n3_ := Aside0.mk ((gs hg (bw HB.out))); clear HB; have HB := n0_; have BK597 := n1_; have GW597 := n2_; have GE597 := n3_; clear n0_ n1_ n2_ n3_; clear hb hbox hg) | ((with_reducible refine gate_dst (N := 3) rfl ?_); refine bx (N := 3) (cs := #[.int .i64 a1_0, .int .i64 a1_1, .int .i64 a1_2, .int .i64 a1_3, .bool a1_4, .bool a1_5, .bool a1_6, .bool a1_7]) (t := 55) ?_; intro gb598 hg w6 hbox hb; have n0_ := Aside0.mk (blk_below (g := gb597) (o := .cells #[.int .i64 a0_0, .int .i64 a0_1] 51 (0, 0)) (kb BK597.out) hb); have n1_ := Aside0.mk (below_step (bw HB.out) hb); have n2_ := Aside0.mk (hbox); have n3_ := Aside0.mk ((gs hg (bw HB.out))); have n4_ := Aside0.mk ((gs hg (bw HB.out))); have n5_ := Aside0.mk ((ga hg BK597.out)); have n6_ := Aside0.mk ((gc hg BK597.out)); clear BK597; clear HB; have BK597 := n0_; have HB := n1_; have BK598 := n2_; have GW598 := n3_; have GE598 := n4_; have NB597_598 := n5_; have NB598_597 := n6_; clear n0_ n1_ n2_ n3_ n4_ n5_ n6_; clear hb hbox hg; have hnb7 := NB597_598.out; have hnc7 := NB598_597.out; have hcz8_0 : w6.cell? ⟨gb597, 0, none⟩ = some (.int .i64 a0_0) := cl BK597 0; have hcz8_1 : w6.cell? ⟨gb597, 1, none⟩ = some (.int .i64 a0_1) := cl BK597 1; have hfz8_0 := blk_frozen BK597.out 0; have hfz8_1 := blk_frozen BK597.out 1) | (go_at_call 85; (with_reducible refine (spec_OpAccess.calls k a0_0 t599 _ A3.out).mono ?_); rintro e w' ⟨rfl, ⟨nd, rfl⟩⟩; (try first | exact ⟨rfl, _, World.drewN_drewN _ _ _⟩ | exact ⟨rfl, _, Eq.trans (World.drewN_drewN _ _ _) (congrArg (World.drewN _) (Nat.add_assoc _ _ _))⟩))))
  go_ret3
  exact ⟨rt, bw HB.out⟩
 ·rw [if_neg c4] at H
  have c4b0 : (t599 == 0) = false := beq_eq_false_iff_ne.mpr c4
  have c4b1 : (t599 != 0) = true := bne_iff_ne.mpr c4
  have HC9 := Aside0.mk H
  clear H
  go_enter Try.func42, Try.ntmps42
  go_upto_region 5 with (first | ((with_reducible refine gate_dst (N := 2) rfl ?_); refine bx (N := 2) (cs := #[.int .i64 a0_0, .int .i64 a0_1]) (t := 51) ?_; intro gb597 hg w10 hbox hb; have n0_ := Aside0.mk (below_step (bw HB.out) hb); have n1_ := Aside0.mk (hbox); have n2_ := Aside0.mk ((gs hg (bw HB.out))); have n3_ := Aside0.mk ((gs hg (bw HB.out))); clear HB; have HB := n0_; have BK597 := n1_; have GW597 := n2_; have GE597 := n3_; clear n0_ n1_ n2_ n3_; clear hb hbox hg) | ((with_reducible refine gate_dst (N := 3) rfl ?_); refine bx (N := 3) (cs := #[.int .i64 a1_0, .int .i64 a1_1, .int .i64 a1_2, .int .i64 a1_3, .bool a1_4, .bool a1_5, .bool a1_6, .bool a1_7]) (t := 55) ?_; intro gb598 hg w11 hbox hb; have n0_ := Aside0.mk (blk_below (g := gb597) (o := .cells #[.int .i64 a0_0, .int .i64 a0_1] 51 (0, 0)) (kb BK597.out) hb); have n1_ := Aside0.mk (below_step (bw HB.out) hb); have n2_ := Aside0.mk (hbox); have n3_ := Aside0.mk ((gs hg (bw HB.out))); have n4_ := Aside0.mk ((gs hg (bw HB.out))); have n5_ := Aside0.mk ((ga hg BK597.out)); have n6_ := Aside0.mk ((gc hg BK597.out)); clear BK597; clear HB; have BK597 := n0_; have HB := n1_; have BK598 := n2_; have GW598 := n3_; have GE598 := n4_; have NB597_598 := n5_; have NB598_597 := n6_; clear n0_ n1_ n2_ n3_ n4_ n5_ n6_; clear hb hbox hg; have hnb12 := NB597_598.out; have hnc12 := NB598_597.out; have hcz13_0 : w11.cell? ⟨gb597, 0, none⟩ = some (.int .i64 a0_0) := cl BK597 0; have hcz13_1 : w11.cell? ⟨gb597, 1, none⟩ = some (.int .i64 a0_1) := cl BK597 1; have hfz13_0 := blk_frozen BK597.out 0; have hfz13_1 := blk_frozen BK597.out 1) | (go_at_call 85; (with_reducible refine (spec_OpAccess.calls k a0_0 t599 _ A3.out).mono ?_); rintro e w' ⟨rfl, ⟨nd, rfl⟩⟩; (try first | exact ⟨rfl, _, World.drewN_drewN _ _ _⟩ | exact ⟨rfl, _, Eq.trans (World.drewN_drewN _ _ _) (congrArg (World.drewN _) (Nat.add_assoc _ _ _))⟩)))
  repeat (go_quiet (first | ((with_reducible refine gate_dst (N := 2) rfl ?_); refine bx (N := 2) (cs := #[.int .i64 a0_0, .int .i64 a0_1]) (t := 51) ?_; intro gb597 hg w10 hbox hb; have n0_ := Aside0.mk (below_step (bw HB.out) hb); have n1_ := Aside0.mk (hbox); have n2_ := Aside0.mk ((gs hg (bw HB.out))); have n3_ := Aside0.mk ((gs hg (bw HB.out))); clear HB; have HB := n0_; have BK597 := n1_; have GW597 := n2_; have GE597 := n3_; clear n0_ n1_ n2_ n3_; clear hb hbox hg) | ((with_reducible refine gate_dst (N := 3) rfl ?_); refine bx (N := 3) (cs := #[.int .i64 a1_0, .int .i64 a1_1, .int .i64 a1_2, .int .i64 a1_3, .bool a1_4, .bool a1_5, .bool a1_6, .bool a1_7]) (t := 55) ?_; intro gb598 hg w11 hbox hb; have n0_ := Aside0.mk (blk_below (g := gb597) (o := .cells #[.int .i64 a0_0, .int .i64 a0_1] 51 (0, 0)) (kb BK597.out) hb); have n1_ := Aside0.mk (below_step (bw HB.out) hb); have n2_ := Aside0.mk (hbox); have n3_ := Aside0.mk ((gs hg (bw HB.out))); have n4_ := Aside0.mk ((gs hg (bw HB.out))); have n5_ := Aside0.mk ((ga hg BK597.out)); have n6_ := Aside0.mk ((gc hg BK597.out)); clear BK597; clear HB; have BK597 := n0_; have HB := n1_; have BK598 := n2_; have GW598 := n3_; have GE598 := n4_; have NB597_598 := n5_; have NB598_597 := n6_; clear n0_ n1_ n2_ n3_ n4_ n5_ n6_; clear hb hbox hg; have hnb12 := NB597_598.out; have hnc12 := NB598_597.out; have hcz13_0 : w11.cell? ⟨gb597, 0, none⟩ = some (.int .i64 a0_0) := cl BK597 0; have hcz13_1 : w11.cell? ⟨gb597, 1, none⟩ = some (.int .i64 a0_1) := cl BK597 1; have hfz13_0 := blk_frozen BK597.out 0; have hfz13_1 := blk_frozen BK597.out 1) | (go_at_call 85; (with_reducible refine (spec_OpAccess.calls k a0_0 t599 _ A3.out).mono ?_); rintro e w' ⟨rfl, ⟨nd, rfl⟩⟩; (try first | exact ⟨rfl, _, World.drewN_drewN _ _ _⟩ | exact ⟨rfl, _, Eq.trans (World.drewN_drewN _ _ _) (congrArg (World.drewN _) (Nat.add_assoc _ _ _))⟩))); go_upto_region 5 with (first | ((with_reducible refine gate_dst (N := 2) rfl ?_); refine bx (N := 2) (cs := #[.int .i64 a0_0, .int .i64 a0_1]) (t := 51) ?_; intro gb597 hg w10 hbox hb; have n0_ := Aside0.mk (below_step (bw HB.out) hb); have n1_ := Aside0.mk (hbox); have n2_ := Aside0.mk ((gs hg (bw HB.out))); have n3_ := Aside0.mk ((gs hg (bw HB.out))); clear HB; have HB := n0_; have BK597 := n1_; have GW597 := n2_; have GE597 := n3_; clear n0_ n1_ n2_ n3_; clear hb hbox hg) | ((with_reducible refine gate_dst (N := 3) rfl ?_); refine bx (N := 3) (cs := #[.int .i64 a1_0, .int .i64 a1_1, .int .i64 a1_2, .int .i64 a1_3, .bool a1_4, .bool a1_5, .bool a1_6, .bool a1_7]) (t := 55) ?_; intro gb598 hg w11 hbox hb; have n0_ := Aside0.mk (blk_below (g := gb597) (o := .cells #[.int .i64 a0_0, .int .i64 a0_1] 51 (0, 0)) (kb BK597.out) hb); have n1_ := Aside0.mk (below_step (bw HB.out) hb); have n2_ := Aside0.mk (hbox); have n3_ := Aside0.mk ((gs hg (bw HB.out))); have n4_ := Aside0.mk ((gs hg (bw HB.out))); have n5_ := Aside0.mk ((ga hg BK597.out)); have n6_ := Aside0.mk ((gc hg BK597.out)); clear BK597; clear HB; have BK597 := n0_; have HB := n1_; have BK598 := n2_; have GW598 := n3_; have GE598 := n4_; have NB597_598 := n5_; have NB598_597 := n6_; clear n0_ n1_ n2_ n3_ n4_ n5_ n6_; clear hb hbox hg; have hnb12 := NB597_598.out; have hnc12 := NB598_597.out; have hcz13_0 : w11.cell? ⟨gb597, 0, none⟩ = some (.int .i64 a0_0) := cl BK597 0; have hcz13_1 : w11.cell? ⟨gb597, 1, none⟩ = some (.int .i64 a0_1) := cl BK597 1; have hfz13_0 := blk_frozen BK597.out 0; have hfz13_1 := blk_frozen BK597.out 1) | (go_at_call 85; (with_reducible refine (spec_OpAccess.calls k a0_0 t599 _ A3.out).mono ?_); rintro e w' ⟨rfl, ⟨nd, rfl⟩⟩; (try first | exact ⟨rfl, _, World.drewN_drewN _ _ _⟩ | exact ⟨rfl, _, Eq.trans (World.drewN_drewN _ _ _) (congrArg (World.drewN _) (Nat.add_assoc _ _ _))⟩))))
  (try simp only [Act.put, List.setIfInBounds_toArray, List.set_cons_zero, List.set_cons_succ])
  go_cut [23] (fun v23 wc => ∃ (kq : Nat) (x23_8 : Bool), v23 = .bool x23_8 ∧ Aside0 (spec_Access.j0 kq t599 a0_1 x23_8 a0_0 a0_1 a1_0 a1_1 a1_2 a1_3 a1_4 a1_5 a1_6 a1_7 = some (r1, r2, r3)) ∧ Aside0 (kq ≤ k) ∧ Aside0 (wc.heap[gb597]? = some (.cells #[.int .i64 a0_0, .int .i64 a0_1] 51 (0, 0))) ∧ Aside0 (wc.heap[gb598]? = some (.cells #[.int .i64 a1_0, .int .i64 a1_1, .int .i64 a1_2, .int .i64 a1_3, .bool a1_4, .bool a1_5, .bool a1_6, .bool a1_7] 55 (0, 0))) ∧ Aside0 (Below w.heap.size w wc))
  case first =>
   have H := HC9.out
   clear HC9
   by_cases c14 : a0_0 = 14
   ·rw [if_pos c14] at H
    have c14b0 : (a0_0 == 14) = true := beq_iff_eq.mpr c14
    have c14b1 : (a0_0 != 14) = false := bne_eq_false_iff_eq.mpr c14
    clear c14
    (first | rw [c14b0] | (simp only [i64_w, i32_w]; rw [c14b0]) | skip)
    have H' := Aside0.mk H
    clear H
    have hnb15 := NB597_598.out
    have hnc15 := NB598_597.out
    have hcz16_0 : w11.cell? ⟨gb597, 0, none⟩ = some (.int .i64 a0_0) := cl BK597 0
    have hcz16_1 : w11.cell? ⟨gb597, 1, none⟩ = some (.int .i64 a0_1) := cl BK597 1
    have hfz16_0 := blk_frozen BK597.out 0
    have hfz16_1 := blk_frozen BK597.out 1
    go_wp2
    repeat (go_quiet (fail); try go_wp2)
    go_meet
    case rel => exact ⟨_, (true), (by first | rfl | (simp; done) | (simp [*]; done)), H', ⟨by first | omega | exact Nat.le_refl _⟩, ⟨kb BK597.out⟩, ⟨kb BK598.out⟩, ⟨bw HB.out⟩⟩
   ·rw [if_neg c14] at H
    have c14b0 : (a0_0 == 14) = false := beq_eq_false_iff_ne.mpr c14
    have c14b1 : (a0_0 != 14) = true := bne_iff_ne.mpr c14
    (first | rw [c14b0] | (simp only [i64_w, i32_w]; rw [c14b0]) | skip)
    have H' := Aside0.mk H
    clear H
    have hnb17 := NB597_598.out
    have hnc17 := NB598_597.out
    have hcz18_0 : w11.cell? ⟨gb597, 0, none⟩ = some (.int .i64 a0_0) := cl BK597 0
    have hcz18_1 : w11.cell? ⟨gb597, 1, none⟩ = some (.int .i64 a0_1) := cl BK597 1
    have hfz18_0 := blk_frozen BK597.out 0
    have hfz18_1 := blk_frozen BK597.out 1
    go_wp2
    repeat (go_quiet (fail); try go_wp2)
    go_meet
    case rel => exact ⟨_, ((a0_0 == 15)), (by first | rfl | (simp; done) | (simp [*]; done)), H', ⟨by first | omega | exact Nat.le_refl _⟩, ⟨kb BK597.out⟩, ⟨kb BK598.out⟩, ⟨bw HB.out⟩⟩
  case rest =>
   clear HC9; (try clear c1); (try clear p2); (try clear c4); (try clear c4b0); (try clear c4b1); (try clear c7); (try clear c12); (try clear c14); (try clear c14b0); (try clear c14b1); (try clear c15); (try clear c17); (try clear hcz13_0); (try clear hcz13_1); (try clear hcz16_0); (try clear hcz16_1); (try clear hcz18_0); (try clear hcz18_1); (try clear hcz8_0); (try clear hcz8_1); (try clear hfz13_0); (try clear hfz13_1); (try clear hfz16_0); (try clear hfz16_1); (try clear hfz18_0); (try clear hfz18_1); (try clear hfz8_0); (try clear hfz8_1)
   obtain ⟨kq, x23_8, rfl, HA, HJ8, BK597, BK598, HB⟩ := hcut
   cases kq with
   | zero => exact absurd HA.out (by simp [spec_Access.j0])
   | succ kj8 =>
    have H := HA.out
    clear HA
    simp only [spec_Access.j0] at H
    have HC19 := Aside0.mk H
    clear H
    go_upto_if 23 with (fail)
    repeat (go_quiet (fail); go_upto_if 23 with (fail))
    go_cut [8] (fun v8 wc => ∃ (kq : Nat) (x8_18 : Int), v8 = .int .i64 x8_18 ∧ Aside0 (spec_Access.j1 kq t599 x8_18 a1_0 a1_1 a1_2 a1_3 a1_4 a1_5 a1_6 a1_7 = some (r1, r2, r3)) ∧ Aside0 (kq ≤ kj8) ∧ Aside0 (wc.heap[gb597]? = some (.cells #[.int .i64 a0_0, .int .i64 a0_1] 51 (0, 0))) ∧ Aside0 (wc.heap[gb598]? = some (.cells #[.int .i64 a1_0, .int .i64 a1_1, .int .i64 a1_2, .int .i64 a1_3, .bool a1_4, .bool a1_5, .bool a1_6, .bool a1_7] 55 (0, 0))) ∧ Aside0 (Below w.heap.size w wc))
    case first =>
     have H := HC19.out
     clear HC19
     by_cases c20 : x23_8 = true
     ·subst c20
      have H1 : (spec_Access.j1 kj8 t599 (wrap64 (a0_1 + a1_1)) a1_0 a1_1 a1_2 a1_3 a1_4 a1_5 a1_6 a1_7) = some (r1, r2, r3) := by rw [if_pos rfl] at H; exact H
      clear H
      have H := H1
      clear H1
      have H' := Aside0.mk H
      clear H
      have hnb21 := NB597_598.out
      have hnc21 := NB598_597.out
      have hcz22_0 : wc.cell? ⟨gb597, 0, none⟩ = some (.int .i64 a0_0) := cl BK597 0
      have hcz22_1 : wc.cell? ⟨gb597, 1, none⟩ = some (.int .i64 a0_1) := cl BK597 1
      have hfz22_0 := blk_frozen BK597.out 0
      have hfz22_1 := blk_frozen BK597.out 1
      have hcz23_0 : wc.cell? ⟨gb598, 0, none⟩ = some (.int .i64 a1_0) := cl BK598 0
      have hcz23_1 : wc.cell? ⟨gb598, 1, none⟩ = some (.int .i64 a1_1) := cl BK598 1
      have hcz23_2 : wc.cell? ⟨gb598, 2, none⟩ = some (.int .i64 a1_2) := cl BK598 2
      have hcz23_3 : wc.cell? ⟨gb598, 3, none⟩ = some (.int .i64 a1_3) := cl BK598 3
      have hcz23_4 : wc.cell? ⟨gb598, 4, none⟩ = some (.bool a1_4) := cl BK598 4
      have hcz23_5 : wc.cell? ⟨gb598, 5, none⟩ = some (.bool a1_5) := cl BK598 5
      have hcz23_6 : wc.cell? ⟨gb598, 6, none⟩ = some (.bool a1_6) := cl BK598 6
      have hcz23_7 : wc.cell? ⟨gb598, 7, none⟩ = some (.bool a1_7) := cl BK598 7
      have hfz23_0 := blk_frozen BK598.out 0
      have hfz23_1 := blk_frozen BK598.out 1
      have hfz23_2 := blk_frozen BK598.out 2
      have hfz23_3 := blk_frozen BK598.out 3
      have hfz23_4 := blk_frozen BK598.out 4
      have hfz23_5 := blk_frozen BK598.out 5
      have hfz23_6 := blk_frozen BK598.out 6
      have hfz23_7 := blk_frozen BK598.out 7
      go_wp2
      repeat (go_quiet (fail); try go_wp2)
      go_meet
      case rel => exact ⟨_, (wrap64 (a0_1 + a1_1)), (by first | rfl | (simp; done) | (simp [*]; done)), H', ⟨by have := HJ8.out; first | omega | exact Nat.le_refl _⟩, ⟨kb BK597.out⟩, ⟨kb BK598.out⟩, ⟨bw HB.out⟩⟩
     ·replace c20 := Bool.eq_false_iff.mpr c20
      subst c20
      have H1 : (spec_Access.j1 kj8 t599 a0_1 a1_0 a1_1 a1_2 a1_3 a1_4 a1_5 a1_6 a1_7) = some (r1, r2, r3) := by rw [if_neg (show ¬ (false = true) by decide)] at H; exact H
      clear H
      have H := H1
      clear H1
      have H' := Aside0.mk H
      clear H
      go_wp2
      repeat (go_quiet (fail); try go_wp2)
      go_meet
      case rel => exact ⟨_, (a0_1), (by first | rfl | (simp; done) | (simp [*]; done)), H', ⟨by have := HJ8.out; first | omega | exact Nat.le_refl _⟩, ⟨kb BK597.out⟩, ⟨kb BK598.out⟩, ⟨bw HB.out⟩⟩
    case rest =>
     clear HC19; (try clear c1); (try clear c2); (try clear p2); (try clear c4); (try clear c4b0); (try clear c4b1); (try clear p6); (try clear c7); (try clear c12); (try clear c14); (try clear c14b0); (try clear c14b1); (try clear c15); (try clear c17); (try clear c20); (try clear c21); (try clear hcz13_0); (try clear hcz13_1); (try clear hcz16_0); (try clear hcz16_1); (try clear hcz18_0); (try clear hcz18_1); (try clear hcz22_0); (try clear hcz22_1); (try clear hcz23_0); (try clear hcz23_1); (try clear hcz23_2); (try clear hcz23_3); (try clear hcz23_4); (try clear hcz23_5); (try clear hcz23_6); (try clear hcz23_7); (try clear hcz8_0); (try clear hcz8_1); (try clear hfz13_0); (try clear hfz13_1); (try clear hfz16_0); (try clear hfz16_1); (try clear hfz18_0); (try clear hfz18_1); (try clear hfz22_0); (try clear hfz22_1); (try clear hfz23_0); (try clear hfz23_1); (try clear hfz23_2); (try clear hfz23_3); (try clear hfz23_4); (try clear hfz23_5); (try clear hfz23_6); (try clear hfz23_7); (try clear hfz8_0); (try clear hfz8_1); (try clear p2)
     obtain ⟨kq, x8_18, rfl, HA, HJ18, BK597, BK598, HB⟩ := hcut
     cases kq with
     | zero => exact absurd HA.out (by simp [spec_Access.j1])
     | succ kj18 =>
      have H := HA.out
      clear HA
      simp only [spec_Access.j1] at H
      by_cases c24 : t599 = 1
      ·rw [if_pos c24] at H
       have c24b0 : (t599 == 1) = true := beq_iff_eq.mpr c24
       have c24b1 : (t599 != 1) = false := bne_eq_false_iff_eq.mpr c24
       clear c24
       replace H := Option.bind_eq_some_iff.mp H
       obtain ⟨t600, A250, H⟩ := H
       replace H : (some (t599, t600, 0)) = some (r1, r2, r3) := H
       have A25 := Aside0.mk A250
       clear A250
       simp only [Option.some.injEq, Prod.mk.injEq] at H
       obtain ⟨rfl, rfl, rfl⟩ := H
       go_wp2_with (first | (go_at_call 61; (with_reducible refine (spec_Addr.calls x8_18 t600 _ A25.out).mono ?_); rintro e w' ⟨rfl, ⟨nd, rfl⟩⟩; (try first | exact ⟨rfl, _, World.drewN_drewN _ _ _⟩ | exact ⟨rfl, _, Eq.trans (World.drewN_drewN _ _ _) (congrArg (World.drewN _) (Nat.add_assoc _ _ _))⟩)))
       repeat (go_quiet (first | (go_at_call 61; (with_reducible refine (spec_Addr.calls x8_18 t600 _ A25.out).mono ?_); rintro e w' ⟨rfl, ⟨nd, rfl⟩⟩; (try first | exact ⟨rfl, _, World.drewN_drewN _ _ _⟩ | exact ⟨rfl, _, Eq.trans (World.drewN_drewN _ _ _) (congrArg (World.drewN _) (Nat.add_assoc _ _ _))⟩))); try go_wp2_with (first | (go_at_call 61; (with_reducible refine (spec_Addr.calls x8_18 t600 _ A25.out).mono ?_); rintro e w' ⟨rfl, ⟨nd, rfl⟩⟩; (try first | exact ⟨rfl, _, World.drewN_drewN _ _ _⟩ | exact ⟨rfl, _, Eq.trans (World.drewN_drewN _ _ _) (congrArg (World.drewN _) (Nat.add_assoc _ _ _))⟩))))
       go_ret3
       exact ⟨rt, bw HB.out⟩
      ·rw [if_neg c24] at H
       have c24b0 : (t599 == 1) = false := beq_eq_false_iff_ne.mpr c24
       have c24b1 : (t599 != 1) = true := bne_iff_ne.mpr c24
       replace H := Option.bind_eq_some_iff.mp H
       obtain ⟨t601, A260, H⟩ := H
       replace H : ((spec_Byte.f a1_0).bind fun t602 => (some (t599, t601, t602))) = some (r1, r2, r3) := H
       have A26 := Aside0.mk A260
       clear A260
       replace H := Option.bind_eq_some_iff.mp H
       obtain ⟨t602, A270, H⟩ := H
       replace H : (some (t599, t601, t602)) = some (r1, r2, r3) := H
       have A27 := Aside0.mk A270
       clear A270
       simp only [Option.some.injEq, Prod.mk.injEq] at H
       obtain ⟨rfl, rfl, rfl⟩ := H
       go_wp2_with (first | (go_at_call 61; (with_reducible refine (spec_Addr.calls x8_18 t601 _ A26.out).mono ?_); rintro e w' ⟨rfl, ⟨nd, rfl⟩⟩; (try first | exact ⟨rfl, _, World.drewN_drewN _ _ _⟩ | exact ⟨rfl, _, Eq.trans (World.drewN_drewN _ _ _) (congrArg (World.drewN _) (Nat.add_assoc _ _ _))⟩); have hnb28 := NB598_597.out; have hnc28 := NB597_598.out; have hcz29_0 : wc.cell? ⟨gb598, 0, none⟩ = some (.int .i64 a1_0) := cl BK598 0; have hcz29_1 : wc.cell? ⟨gb598, 1, none⟩ = some (.int .i64 a1_1) := cl BK598 1; have hcz29_2 : wc.cell? ⟨gb598, 2, none⟩ = some (.int .i64 a1_2) := cl BK598 2; have hcz29_3 : wc.cell? ⟨gb598, 3, none⟩ = some (.int .i64 a1_3) := cl BK598 3; have hcz29_4 : wc.cell? ⟨gb598, 4, none⟩ = some (.bool a1_4) := cl BK598 4; have hcz29_5 : wc.cell? ⟨gb598, 5, none⟩ = some (.bool a1_5) := cl BK598 5; have hcz29_6 : wc.cell? ⟨gb598, 6, none⟩ = some (.bool a1_6) := cl BK598 6; have hcz29_7 : wc.cell? ⟨gb598, 7, none⟩ = some (.bool a1_7) := cl BK598 7; have hfz29_0 := blk_frozen BK598.out 0; have hfz29_1 := blk_frozen BK598.out 1; have hfz29_2 := blk_frozen BK598.out 2; have hfz29_3 := blk_frozen BK598.out 3; have hfz29_4 := blk_frozen BK598.out 4; have hfz29_5 := blk_frozen BK598.out 5; have hfz29_6 := blk_frozen BK598.out 6; have hfz29_7 := blk_frozen BK598.out 7) | (go_at_call 71; (with_reducible refine (spec_Byte.calls a1_0 t602 _ A27.out).mono ?_); rintro e w' ⟨rfl, ⟨nd, rfl⟩⟩; (try first | exact ⟨rfl, _, World.drewN_drewN _ _ _⟩ | exact ⟨rfl, _, Eq.trans (World.drewN_drewN _ _ _) (congrArg (World.drewN _) (Nat.add_assoc _ _ _))⟩)))
       repeat (go_quiet (first | (go_at_call 61; (with_reducible refine (spec_Addr.calls x8_18 t601 _ A26.out).mono ?_); rintro e w' ⟨rfl, ⟨nd, rfl⟩⟩; (try first | exact ⟨rfl, _, World.drewN_drewN _ _ _⟩ | exact ⟨rfl, _, Eq.trans (World.drewN_drewN _ _ _) (congrArg (World.drewN _) (Nat.add_assoc _ _ _))⟩); have hnb28 := NB598_597.out; have hnc28 := NB597_598.out; have hcz29_0 : wc.cell? ⟨gb598, 0, none⟩ = some (.int .i64 a1_0) := cl BK598 0; have hcz29_1 : wc.cell? ⟨gb598, 1, none⟩ = some (.int .i64 a1_1) := cl BK598 1; have hcz29_2 : wc.cell? ⟨gb598, 2, none⟩ = some (.int .i64 a1_2) := cl BK598 2; have hcz29_3 : wc.cell? ⟨gb598, 3, none⟩ = some (.int .i64 a1_3) := cl BK598 3; have hcz29_4 : wc.cell? ⟨gb598, 4, none⟩ = some (.bool a1_4) := cl BK598 4; have hcz29_5 : wc.cell? ⟨gb598, 5, none⟩ = some (.bool a1_5) := cl BK598 5; have hcz29_6 : wc.cell? ⟨gb598, 6, none⟩ = some (.bool a1_6) := cl BK598 6; have hcz29_7 : wc.cell? ⟨gb598, 7, none⟩ = some (.bool a1_7) := cl BK598 7; have hfz29_0 := blk_frozen BK598.out 0; have hfz29_1 := blk_frozen BK598.out 1; have hfz29_2 := blk_frozen BK598.out 2; have hfz29_3 := blk_frozen BK598.out 3; have hfz29_4 := blk_frozen BK598.out 4; have hfz29_5 := blk_frozen BK598.out 5; have hfz29_6 := blk_frozen BK598.out 6; have hfz29_7 := blk_frozen BK598.out 7) | (go_at_call 71; (with_reducible refine (spec_Byte.calls a1_0 t602 _ A27.out).mono ?_); rintro e w' ⟨rfl, ⟨nd, rfl⟩⟩; (try first | exact ⟨rfl, _, World.drewN_drewN _ _ _⟩ | exact ⟨rfl, _, Eq.trans (World.drewN_drewN _ _ _) (congrArg (World.drewN _) (Nat.add_assoc _ _ _))⟩))); try go_wp2_with (first | (go_at_call 61; (with_reducible refine (spec_Addr.calls x8_18 t601 _ A26.out).mono ?_); rintro e w' ⟨rfl, ⟨nd, rfl⟩⟩; (try first | exact ⟨rfl, _, World.drewN_drewN _ _ _⟩ | exact ⟨rfl, _, Eq.trans (World.drewN_drewN _ _ _) (congrArg (World.drewN _) (Nat.add_assoc _ _ _))⟩); have hnb28 := NB598_597.out; have hnc28 := NB597_598.out; have hcz29_0 : wc.cell? ⟨gb598, 0, none⟩ = some (.int .i64 a1_0) := cl BK598 0; have hcz29_1 : wc.cell? ⟨gb598, 1, none⟩ = some (.int .i64 a1_1) := cl BK598 1; have hcz29_2 : wc.cell? ⟨gb598, 2, none⟩ = some (.int .i64 a1_2) := cl BK598 2; have hcz29_3 : wc.cell? ⟨gb598, 3, none⟩ = some (.int .i64 a1_3) := cl BK598 3; have hcz29_4 : wc.cell? ⟨gb598, 4, none⟩ = some (.bool a1_4) := cl BK598 4; have hcz29_5 : wc.cell? ⟨gb598, 5, none⟩ = some (.bool a1_5) := cl BK598 5; have hcz29_6 : wc.cell? ⟨gb598, 6, none⟩ = some (.bool a1_6) := cl BK598 6; have hcz29_7 : wc.cell? ⟨gb598, 7, none⟩ = some (.bool a1_7) := cl BK598 7; have hfz29_0 := blk_frozen BK598.out 0; have hfz29_1 := blk_frozen BK598.out 1; have hfz29_2 := blk_frozen BK598.out 2; have hfz29_3 := blk_frozen BK598.out 3; have hfz29_4 := blk_frozen BK598.out 4; have hfz29_5 := blk_frozen BK598.out 5; have hfz29_6 := blk_frozen BK598.out 6; have hfz29_7 := blk_frozen BK598.out 7) | (go_at_call 71; (with_reducible refine (spec_Byte.calls a1_0 t602 _ A27.out).mono ?_); rintro e w' ⟨rfl, ⟨nd, rfl⟩⟩; (try first | exact ⟨rfl, _, World.drewN_drewN _ _ _⟩ | exact ⟨rfl, _, Eq.trans (World.drewN_drewN _ _ _) (congrArg (World.drewN _) (Nat.add_assoc _ _ _))⟩))))
       go_ret3
       exact ⟨rt, bw HB.out⟩

/-! ### spec_DrawCpuNew: function 43 -/
def spec_DrawCpuNew.f (k : Nat) (l0 : List Int) : Option ((List (List Int))) := (spec_l1New.f k l0).bind fun bt604 => ((spec_l2Draw.f k bt604.1 bt604.2.1 bt604.2.2).bind fun bt608 => (some bt608.1))
set_option maxHeartbeats 8000000 in
set_option maxRecDepth 100000 in
theorem spec_DrawCpuNew.calls (k : Nat) (A0 : Option Addr) (c0 : Nat) (l0 : List Int) (r : List (List Int)) (w : World) (hr0 : Kd.C (Kd.int .u8) w A0 l0.length l0) (hc0 : l0.length ≤ c0) (h : spec_DrawCpuNew.f k l0 = some r) :
  Calls Try.prog 43 #[.slice A0 l0.length c0] w fun e w' => ∃ v0_ : Value, e = .returned (.agg #[v0_]) ∧ Kd.S (cutK 3 (Kd.int .i64)) 30 w' w.heap.size (fun _ => True) v0_ r ∧ Below w.heap.size w w' := by
 have hu29 := Try.underlying29
 have HR0 := Aside0.mk hr0
 have HC0 := Aside0.mk hc0
 clear hr0 hc0
 have HB := Aside0.mk (Below.refl w.heap.size w)
 have H : ((spec_l1New.f k l0).bind fun bt604 => ((spec_l2Draw.f k bt604.1 bt604.2.1 bt604.2.2).bind fun bt608 => (some bt608.1))) = some r := h
 clear h
 replace H := Option.bind_eq_some_iff.mp H
 obtain ⟨⟨t604, t605, t606⟩, A20, H⟩ := H
 replace H : ((spec_l2Draw.f k t604 t605 t606).bind fun bt608 => (some bt608.1)) = some r := H
 have A2 := Aside0.mk A20
 clear A20
 replace H := Option.bind_eq_some_iff.mp H
 obtain ⟨⟨t608, t611, t612⟩, A30, H⟩ := H
 replace H : (some t608) = some r := H
 have A3 := Aside0.mk A30
 clear A30
 obtain rfl := Option.some.inj H
 go_enter Try.func43, Try.ntmps43
 go_wp2_with (first | ((with_reducible refine gate_dst (N := 2) rfl ?_); refine bx (N := 2) (cs := #[.slice none 0 0]) (t := 29) ?_; intro gb603 hg w4 hbox hb; have n0_ := Aside0.mk (below_step (bw HB.out) hb); have n1_ := Aside0.mk (hbox); have n2_ := Aside0.mk ((gs hg (bw HB.out))); have n3_ := Aside0.mk ((gs hg (bw HB.out))); clear HB; have HB := n0_; have BK603 := n1_; have GW603 := n2_; have GE603 := n3_; clear n0_ n1_ n2_ n3_; clear hb hbox hg) | ((with_reducible refine gate_callee (f := 57) rfl ?_); refine goesM_ (some 4) rfl rfl Try.func57 #[.slice A0 l0.length c0] ?_; (with_reducible refine (spec_l1New.calls k _ _ l0 t604 t605 t606 w _ ?side1 ?side2 ?side3 A2.out).mono ?_); (case side1 => exact bw HB.out); (case side2 => exact HR0.out); (case side3 => exact HC0.out); rintro e w5 ⟨g607, rfl, hi, hb, hb2⟩; refine ⟨_, rfl, ?_⟩; have n0_ := Aside0.mk (blk_below (g := gb603) (o := .cells #[.slice none 0 0] 29 (0, 0)) (kb BK603.out) hb2); have n1_ := Aside0.mk (hb); have n2_ := Aside0.mk (hi); have n3_ := Aside0.mk (IsS107.ne_blk hi (blk_below (g := gb603) (o := .cells #[.slice none 0 0] 29 (0, 0)) (kb BK603.out) hb2) (by decide)); have n4_ := Aside0.mk (Ne.symm (IsS107.ne_blk hi (blk_below (g := gb603) (o := .cells #[.slice none 0 0] 29 (0, 0)) (kb BK603.out) hb2) (by decide))); clear BK603; clear HB; have BK603 := n0_; have HB := n1_; have HI607 := n2_; have NB607_603 := n3_; have NB603_607 := n4_; clear n0_ n1_ n2_ n3_ n4_; (try clear hb); (try clear hb2); (try clear hk); (try clear hi)) | ((with_reducible refine gate_callee (f := 65) rfl ?_); refine goesM_ (some 5) rfl rfl Try.func65 #[.pointer (some ⟨g607, 0, none⟩)] ?_; (with_reducible refine (spec_l2Draw.calls k g607 t604 t605 t606 t608 t611 t612 w _ ?side1 ?side2 A3.out).mono ?_); (case side1 => exact si HI607.out); (case side2 => exact bi HB.out); rintro e w6 ⟨v609, rfl, ho0, hi, hb, hk⟩; refine ⟨_, rfl, ?_⟩; have n0_ := Aside0.mk (KeepBut.blk hk (g' := gb603) (o := .cells #[.slice none 0 0] 29 (0, 0)) (kb BK603.out) NB603_607.out (by simp)); have n1_ := Aside0.mk (Kd.S_lower ho0 (below_size (bi HB.out))); have n2_ := Aside0.mk (hb); have n3_ := Aside0.mk (hi); clear BK603; clear HB; clear HI607; have BK603 := n0_; have HO610 := n1_; have HB := n2_; have HI607 := n3_; clear n0_ n1_ n2_ n3_; (try clear hb); (try clear hb2); (try clear hk); (try clear hi); (try clear ho0); obtain ⟨Ao7, co7, eo7⟩ := Kd.S_slice HO610.out; subst eo7; have hnb8 := NB603_607.out; have hnc8 := NB607_603.out; have hcz9_0 : w6.cell? ⟨gb603, 0, none⟩ = some (.slice none 0 0) := cl BK603 0; have hfz9_0 := blk_frozen BK603.out 0))
 refine bodyPost_ret (results_cell_row rfl _ _ gb603 29 #[.slice Ao7 t608.length co7] (0, 0) _ rfl (kt BK603.out) Try.underlying29 rfl (by kernel_rfl)) rfl ?_
 exact ⟨_, rt, ks (Kd.S_mono (Kd.S_far (p := ⟨gb603, 0, none⟩) (Kd.S_types HO610.out BK603.out (by decide)) (fun _ hk => hk.2) (.slice Ao7 t608.length co7)) (fun _ hk => trivial)), bi HB.out⟩

/-! ### impl_vectorOf: function 86 -/
def impl_vectorOf.f (k : Nat) (l0_0 : List (List Int)) (l1_0 : List Int) (a1_1 : Int) (a2 : Int) : Option (Int) := (impl_Peek.f k l0_0 l1_0 a1_1 a2).bind fun t615 => ((impl_Peek.f k l0_0 l1_0 a1_1 (wrap64 (a2 + 1))).bind fun t616 => ((impl_Join.f t615 t616).bind fun t617 => (some t617)))
def impl_vectorOf.T1 : Bool × List (List Nat × List Nat) := (true, [([], []), ([], []), ([], []), ([0, 1, 2], [0, 1, 2]), ([], []), ([], []), ([], []), ([6], [6]), ([4, 5, 7, 3], [4, 5, 7]), ([3, 8, 8], [3, 8]), ([9, 9, 0, 1, 2, 3, 4, 5, 6, 7, 8, 9], [9])])
def impl_vectorOf.B1 : List Nat := [0, 0, 0, 7, 0, 0, 0, 64, 255, 511, 1023]
theorem impl_vectorOf.tab1 : rtab .any (opsOf Try.f86 1) = impl_vectorOf.T1 := by kernel_rfl
theorem impl_vectorOf.bits1 : waitsOk impl_vectorOf.T1.2 impl_vectorOf.B1 = true := by kernel_rfl
set_option maxHeartbeats 8000000 in
set_option maxRecDepth 100000 in
theorem impl_vectorOf.calls (k : Nat) (A0_0 : Option Addr) (c0_0 : Nat) (l0_0 : List (List Int)) (A1_0 : Option Addr) (c1_0 : Nat) (l1_0 : List Int) (a1_1 : Int) (a2 : Int) (r : Int) (w : World) (hr0_0 : Kd.C (Kd.slice 3 (Kd.int .i64)) w A0_0 l0_0.length l0_0) (hc0_0 : l0_0.length ≤ c0_0) (hr1_0 : Kd.C (Kd.int .i64) w A1_0 l1_0.length l1_0) (hc1_0 : l1_0.length ≤ c1_0) (h : impl_vectorOf.f k l0_0 l1_0 a1_1 a2 = some r) :
  Calls Try.prog 86 #[.agg #[.slice A0_0 l0_0.length c0_0], .agg #[.slice A1_0 l1_0.length c1_0, .int .i64 a1_1], .int .i64 a2] w fun e w' => e = .returned (.int .i64 r) ∧ Below w.heap.size w w' := by
 have hu29 := Try.underlying29
 have hu32 := Try.underlying32
 have HR0_0 := Aside0.mk hr0_0
 have HC0_0 := Aside0.mk hc0_0
 clear hr0_0 hc0_0
 have HR1_0 := Aside0.mk hr1_0
 have HC1_0 := Aside0.mk hc1_0
 clear hr1_0 hc1_0
 have HB := Aside0.mk (Below.refl w.heap.size w)
 have H : ((impl_Peek.f k l0_0 l1_0 a1_1 a2).bind fun t615 => ((impl_Peek.f k l0_0 l1_0 a1_1 (wrap64 (a2 + 1))).bind fun t616 => ((impl_Join.f t615 t616).bind fun t617 => (some t617)))) = some r := h
 clear h
 replace H := Option.bind_eq_some_iff.mp H
 obtain ⟨t615, A40, H⟩ := H
 replace H : ((impl_Peek.f k l0_0 l1_0 a1_1 (wrap64 (a2 + 1))).bind fun t616 => ((impl_Join.f t615 t616).bind fun t617 => (some t617))) = some r := H
 have A4 := Aside0.mk A40
 clear A40
 replace H := Option.bind_eq_some_iff.mp H
 obtain ⟨t616, A50, H⟩ := H
 replace H : ((impl_Join.f t615 t616).bind fun t617 => (some t617)) = some r := H
 have A5 := Aside0.mk A50
 clear A50
 replace H := Option.bind_eq_some_iff.mp H
 obtain ⟨t617, A60, H⟩ := H
 replace H : (some t617) = some r := H
 have A6 := Aside0.mk A60
 clear A60
 obtain rfl := Option.some.inj H
 go_enter Try.func86, Try.ntmps86
 try go_wp2_with (first | ((with_reducible refine gate_dst (N := 3) rfl ?_); refine bx (N := 3) (cs := #[.slice A0_0 l0_0.length c0_0]) (t := 29) ?_; intro gb613 hg w7 hbox hb; have n0_ := Aside0.mk (below_step (bw HB.out) hb); have n1_ := Aside0.mk (hbox); have n2_ := Aside0.mk ((gs hg (bw HB.out))); have n3_ := Aside0.mk ((gs hg (bw HB.out))); clear HB; have HB := n0_; have BK613 := n1_; have GW613 := n2_; have GE613 := n3_; clear n0_ n1_ n2_ n3_; clear hb hbox hg) | ((with_reducible refine gate_dst (N := 4) rfl ?_); refine bx (N := 4) (cs := #[.slice A1_0 l1_0.length c1_0, .int .i64 a1_1]) (t := 32) ?_; intro gb614 hg w8 hbox hb; have n0_ := Aside0.mk (blk_below (g := gb613) (o := .cells #[.slice A0_0 l0_0.length c0_0] 29 (0, 0)) (kb BK613.out) hb); have n1_ := Aside0.mk (below_step (bw HB.out) hb); have n2_ := Aside0.mk (hbox); have n3_ := Aside0.mk ((gs hg (bw HB.out))); have n4_ := Aside0.mk ((gs hg (bw HB.out))); have n5_ := Aside0.mk ((ga hg BK613.out)); have n6_ := Aside0.mk ((gc hg BK613.out)); clear BK613; clear HB; have BK613 := n0_; have HB := n1_; have BK614 := n2_; have GW614 := n3_; have GE614 := n4_; have NB613_614 := n5_; have NB614_613 := n6_; clear n0_ n1_ n2_ n3_ n4_ n5_ n6_; clear hb hbox hg))
 have n0_ := Aside0.mk (blk_drew BK613.out)
 have n1_ := Aside0.mk (blk_drew BK614.out)
 have n2_ := Aside0.mk (below_drew1 HB.out)
 clear BK613; clear BK614; clear HB; have BK613 := n0_; have BK614 := n1_; have HB := n2_; clear n0_ n1_ n2_
 refine start_ (n := 11) (S := fun w' => w'.cell? ⟨gb613, 0, none⟩ = some (.slice A0_0 l0_0.length c0_0) ∧ w'.cell? ⟨gb614, 0, none⟩ = some (.slice A1_0 l1_0.length c1_0) ∧ w'.cell? ⟨gb614, 1, none⟩ = some (.int .i64 a1_1)) (ds := []) (bm 11 0) (by kernel_rfl) rfl (by kernel_rfl) ⟨cl BK613 0, cl BK614 0, cl BK614 1⟩ (fun hHeld => ?_); refine with_tabW impl_vectorOf.tab1 impl_vectorOf.bits1 (fun HT_ HW_ => ?_)
 generalize w8.drew = w9 at BK613 BK614 HB hHeld ⊢
 refine pw_ 2 (some 9) (bm 11 4) HT_ ?_
 refine pw_ 6 (some 13) (bm 11 68) HT_ ?_
 refine pw_ 7 (some 14) (bm 11 196) HT_ ?_
 refine tw_ 0 (some 7) (bm 11 197) HT_ HW_ hHeld ?_
 refine tw_ 1 (some 8) (bm 11 199) HT_ HW_ hHeld ?_
 refine tw_ 4 (some 11) (bm 11 215) HT_ HW_ hHeld ?_
 refine tw_ 5 (some 12) (bm 11 247) HT_ HW_ hHeld ?_
 refine ow_ 3 (some 10) (bm 11 255) HT_ (fun K hK => ?_)
 refine gw_ Try.func14 #[.agg #[.slice A0_0 l0_0.length c0_0], .agg #[.slice A1_0 l1_0.length c1_0, .int .i64 a1_1], .int .i64 a2] ?_
 with_reducible refine (impl_Peek.calls k _ _ l0_0 _ _ l1_0 a1_1 a2 t615 _ ?side1 ?side2 ?side3 ?side4 A4.out).mono ?_
 (case side1 => exact kc (Kd.C_below HR0_0.out HB.out))
 (case side2 => exact HC0_0.out)
 (case side3 => exact kc (Kd.C_below HR1_0.out HB.out))
 (case side4 => exact HC1_0.out)
 rintro e w10 ⟨rfl, hb⟩
 refine ⟨_, rfl, ?_⟩
 have n0_ := Aside0.mk (blk_below (g := gb613) (o := .cells #[.slice A0_0 l0_0.length c0_0] 29 (0, 0)) (kb BK613.out) hb)
 have n1_ := Aside0.mk (blk_below (g := gb614) (o := .cells #[.slice A1_0 l1_0.length c1_0, .int .i64 a1_1] 32 (0, 0)) (kb BK614.out) hb)
 have n2_ := Aside0.mk (below_step (bw HB.out) hb)
 clear BK613; clear BK614; clear HB; have BK613 := n0_; have BK614 := n1_; have HB := n2_; clear n0_ n1_ n2_; (try clear hb); (try clear hb2); (try clear hk); (try clear hi)
 refine hK.out _ _ ⟨cl BK613 0, cl BK614 0, cl BK614 1⟩ (fun hHeld => ?_)
 clear hK K
 refine nw_ ?_
 refine ow_ 8 (some 15) (bm 11 511) HT_ (fun K hK => ?_)
 refine gw_ Try.func14 #[.agg #[.slice A0_0 l0_0.length c0_0], .agg #[.slice A1_0 l1_0.length c1_0, .int .i64 a1_1], .int .i64 (wrap64 (a2 + 1))] ?_
 with_reducible refine (impl_Peek.calls k _ _ l0_0 _ _ l1_0 a1_1 (wrap64 (a2 + 1)) t616 _ ?side1 ?side2 ?side3 ?side4 A5.out).mono ?_
 (case side1 => exact kc (Kd.C_below HR0_0.out HB.out))
 (case side2 => exact HC0_0.out)
 (case side3 => exact kc (Kd.C_below HR1_0.out HB.out))
 (case side4 => exact HC1_0.out)
 rintro e w11 ⟨rfl, hb⟩
 refine ⟨_, rfl, ?_⟩
 have n0_ := Aside0.mk (blk_below (g := gb613) (o := .cells #[.slice A0_0 l0_0.length c0_0] 29 (0, 0)) (kb BK613.out) hb)
 have n1_ := Aside0.mk (blk_below (g := gb614) (o := .cells #[.slice A1_0 l1_0.length c1_0, .int .i64 a1_1] 32 (0, 0)) (kb BK614.out) hb)
 have n2_ := Aside0.mk (below_step (bw HB.out) hb)
 clear BK613; clear BK614; clear HB; have BK613 := n0_; have BK614 := n1_; have HB := n2_; clear n0_ n1_ n2_; (try clear hb); (try clear hb2); (try clear hk); (try clear hi)
 refine hK.out _ _ ⟨cl BK613 0, cl BK614 0, cl BK614 1⟩ (fun hHeld => ?_)
 clear hK K
 refine nw_ ?_
 refine ow_ 9 (some 16) (bm 11 1023) HT_ (fun K hK => ?_)
 refine gw_ Try.func39 #[.int .i64 t615, .int .i64 t616] ?_
 with_reducible refine (impl_Join.calls t615 t616 t617 _ A6.out).mono ?_
 rintro e w' ⟨rfl, ⟨nd, rfl⟩⟩
 refine ⟨_, rfl, ?_⟩
 have n0_ := Aside0.mk (blk_drewN BK613.out nd)
 have n1_ := Aside0.mk (blk_drewN BK614.out nd)
 have n2_ := Aside0.mk (pw_below_drewN HB.out nd)
 clear BK613; clear BK614; clear HB; have BK613 := n0_; have BK614 := n1_; have HB := n2_; clear n0_ n1_ n2_
 generalize w11.drewN nd = w11 at BK613 BK614 HB ⊢
 refine hK.out _ _ ⟨cl BK613 0, cl BK614 0, cl BK614 1⟩ (fun hHeld => ?_)
 clear hK K
 refine nw_ ?_
 refine pw_ 10 (some 6) (bm 11 2047) HT_ ?_
 refine done_ (done_of HT_.out (by kernel_rfl)) ?_
 try go_wp2
 go_ret
 exact ⟨rt, bw HB.out⟩

/-! ### impl_MemNew: function 87 -/
def impl_MemNew.f  : Option (List Int × Int) := if 512 ≤ 35184372088832 then (some ((List.replicate 512 0), 0)) else (none)
set_option maxHeartbeats 8000000 in
set_option maxRecDepth 100000 in
theorem impl_MemNew.calls  (r1 : List Int) (r2 : Int) (w : World) (h : impl_MemNew.f  = some (r1, r2)) :
  Calls Try.prog 87 #[] w fun e w' => ∃ v0_ : Value, e = .returned (.agg #[v0_, .int .i64 r2]) ∧ Kd.R (Kd.int .i64) 3 w' w.heap.size (fun _ => True) v0_ r1 ∧ Below w.heap.size w w' := by
 have hu32 := Try.underlying32
 have HB := Aside0.mk (Below.refl w.heap.size w)
 have H : (if 512 ≤ 35184372088832 then (some ((List.replicate 512 0), 0)) else (none)) = some (r1, r2) := h
 clear h
 by_cases c1 : 512 ≤ 35184372088832
 ·rw [if_pos c1] at H
  have c1b0 := eq_true c1
  have c1b1 : decide (512 ≤ 35184372088832) = true := decide_eq_true c1
  clear c1
  obtain ⟨y619, hy619⟩ : ∃ y_ : List Int, y_ = (List.replicate 512 0) := ⟨_, rfl⟩
  replace H : (some (y619, 0)) = some (r1, r2) := by first | (rw [hy619]; with_reducible exact H) | (have H2_ := (Option.bind_some _ _).symm.trans H; rw [hy619]; with_reducible exact H2_) | (have H2_ := (Option.bind_some _ _).symm.trans H; with_reducible exact H2_) | with_reducible exact H | (rw [hy619]; exact H) | exact H
  have Ny619 := Aside0.mk hy619
  clear hy619
  simp only [Option.some.injEq, Prod.mk.injEq] at H
  obtain ⟨rfl, rfl⟩ := H
  go_enter Try.func87, Try.ntmps87
  go_wp2_with (first | ((with_reducible refine gate_dst (N := 0) rfl ?_); refine bx (N := 0) (cs := #[.slice none 0 0, .int .i64 0]) (t := 32) ?_; intro gb618 hg w2 hbox hb; have n0_ := Aside0.mk (below_step (bw HB.out) hb); have n1_ := Aside0.mk (hbox); have n2_ := Aside0.mk ((gs hg (bw HB.out))); have n3_ := Aside0.mk ((gs hg (bw HB.out))); clear HB; have HB := n0_; have BK618 := n1_; have GW618 := n2_; have GE618 := n3_; clear n0_ n1_ n2_ n3_; clear hb hbox hg) | ((with_reducible refine gate_dst (N := 1) rfl ?_); refine Kd.R_make (Kd.int .i64) _ 3 rfl (N := 1) rfl 30 _ _ rfl 512 rfl rfl Try.underlying30 (.int .i64 0) 8 info3 rfl (by decide) (by omega) 0 (ok := fun _ => True) (okp := fun _ => True) rfl (fun _ hk => hk) trivial (by omega) (by omega) (Below.refl _ _) (Nat.le_refl _) ?_; intro v620 w3 ho4 hb hg_ hnew_; clear hg_ hnew_; (first | rw [← Ny619.out] at ho4 | (simp only [Int.reduceToNat] at ho4; rw [← Ny619.out] at ho4)); have n0_ := Aside0.mk (Kd.R_lower ho4 (below_size (bw HB.out))); have n1_ := Aside0.mk (blk_below (g := gb618) (o := .cells #[.slice none 0 0, .int .i64 0] 32 (0, 0)) (kb BK618.out) hb); have n2_ := Aside0.mk (below_step (bw HB.out) hb); clear BK618; clear HB; have HO621 := n0_; have BK618 := n1_; have HB := n2_; clear n0_ n1_ n2_; clear hb ho4; obtain ⟨Ao5, co5, eo5⟩ := Kd.R_slice HO621.out; subst eo5; have hcz6_0 : w3.cell? ⟨gb618, 0, none⟩ = some (.slice none 0 0) := cl BK618 0; have hcz6_1 : w3.cell? ⟨gb618, 1, none⟩ = some (.int .i64 0) := cl BK618 1; have hfz6_0 := blk_frozen BK618.out 0; have hfz6_1 := blk_frozen BK618.out 1))
  refine bodyPost_ret (results_cell_row rfl _ _ gb618 32 #[.slice Ao5 y619.length co5, .int .i64 0] (0, 0) _ rfl (by (with_reducible repeat (first | refine blk_drewN ?_ _ | refine blk_drew ?_ | refine blk_alloc ?_ _)); refine blk_put (cs := #[.slice Ao5 y619.length co5, .int .i64 0]) ?_ 1 _ rfl; (with_reducible repeat (first | refine blk_drewN ?_ _ | refine blk_drew ?_ | refine blk_alloc ?_ _)); refine blk_put (cs := #[.slice none 0 0, .int .i64 0]) ?_ 0 _ rfl; (with_reducible repeat (first | refine blk_drewN ?_ _ | refine blk_drew ?_ | refine blk_alloc ?_ _)); exact BK618.out) Try.underlying32 rfl (by kernel_rfl)) rfl ?_
  exact ⟨_, rt, kr (Kd.R_mono (Kd.R_far (p := ⟨gb618, 1, none⟩) (Kd.R_far (p := ⟨gb618, 0, none⟩) (Kd.R_types HO621.out BK618.out (by decide)) (fun _ hk => hk.2) (.slice Ao5 y619.length co5)) (fun _ hk => hk.2) (.int .i64 0)) (fun _ hk => trivial)), bw HB.out⟩
 ·rw [if_neg c1] at H
  exact absurd H (by simp)

/-! ### impl_CpuNew: function 44 -/
def impl_CpuNew.f (k : Nat) (l0_0 : List (List Int)) : Option (Int × Int × Int × Int × Bool × Bool × Bool × Bool) := (impl_MemNew.f).bind fun bt624 => ((impl_vectorOf.f k l0_0 bt624.1 bt624.2 65532).bind fun t628 => (some (0, 0, 255, t628, false, false, false, true)))
set_option maxHeartbeats 8000000 in
set_option maxRecDepth 100000 in
theorem impl_CpuNew.calls (k : Nat) (A0_0 : Option Addr) (c0_0 : Nat) (l0_0 : List (List Int)) (r1 : Int) (r2 : Int) (r3 : Int) (r4 : Int) (r5 : Bool) (r6 : Bool) (r7 : Bool) (r8 : Bool) (w : World) (hr0_0 : Kd.C (Kd.slice 3 (Kd.int .i64)) w A0_0 l0_0.length l0_0) (hc0_0 : l0_0.length ≤ c0_0) (h : impl_CpuNew.f k l0_0 = some (r1, r2, r3, r4, r5, r6, r7, r8)) :
  Calls Try.prog 44 #[.agg #[.slice A0_0 l0_0.length c0_0]] w fun e w' => e = .returned (.agg #[.int .i64 r1, .int .i64 r2, .int .i64 r3, .int .i64 r4, .bool r5, .bool r6, .bool r7, .bool r8]) ∧ Below w.heap.size w w' := by
 have hu29 := Try.underlying29
 have hu55 := Try.underlying55
 have HR0_0 := Aside0.mk hr0_0
 have HC0_0 := Aside0.mk hc0_0
 clear hr0_0 hc0_0
 have HB := Aside0.mk (Below.refl w.heap.size w)
 have H : ((impl_MemNew.f).bind fun bt624 => ((impl_vectorOf.f k l0_0 bt624.1 bt624.2 65532).bind fun t628 => (some (0, 0, 255, t628, false, false, false, true)))) = some (r1, r2, r3, r4, r5, r6, r7, r8) := h
 clear h
 replace H := Option.bind_eq_some_iff.mp H
 obtain ⟨⟨t624, t627⟩, A20, H⟩ := H
 replace H : ((impl_vectorOf.f k l0_0 t624 t627 65532).bind fun t628 => (some (0, 0, 255, t628, false, false, false, true))) = some (r1, r2, r3, r4, r5, r6, r7, r8) := H
 have A2 := Aside0.mk A20
 clear A20
 replace H := Option.bind_eq_some_iff.mp H
 obtain ⟨t628, A30, H⟩ := H
 replace H : (some (0, 0, 255, t628, false, false, false, true)) = some (r1, r2, r3, r4, r5, r6, r7, r8) := H
 have A3 := Aside0.mk A30
 clear A30
 simp only [Option.some.injEq, Prod.mk.injEq] at H
 obtain ⟨rfl, rfl, rfl, rfl, rfl, rfl, rfl, rfl⟩ := H
 go_enter Try.func44, Try.ntmps44
 try go_wp2_with (first | ((with_reducible refine gate_dst (N := 1) rfl ?_); refine bx (N := 1) (cs := #[.slice A0_0 l0_0.length c0_0]) (t := 29) ?_; intro gb622 hg w4 hbox hb; have n0_ := Aside0.mk (below_step (bw HB.out) hb); have n1_ := Aside0.mk (hbox); have n2_ := Aside0.mk ((gs hg (bw HB.out))); have n3_ := Aside0.mk ((gs hg (bw HB.out))); clear HB; have HB := n0_; have BK622 := n1_; have GW622 := n2_; have GE622 := n3_; clear n0_ n1_ n2_ n3_; clear hb hbox hg) | ((with_reducible refine gate_dst (N := 2) rfl ?_); refine bx (N := 2) (cs := #[.int .i64 0, .int .i64 0, .int .i64 0, .int .i64 0, .bool false, .bool false, .bool false, .bool false]) (t := 55) ?_; intro gb623 hg w5 hbox hb; have n0_ := Aside0.mk (blk_below (g := gb622) (o := .cells #[.slice A0_0 l0_0.length c0_0] 29 (0, 0)) (kb BK622.out) hb); have n1_ := Aside0.mk (below_step (bw HB.out) hb); have n2_ := Aside0.mk (hbox); have n3_ := Aside0.mk ((gs hg (bw HB.out))); have n4_ := Aside0.mk ((gs hg (bw HB.out))); have n5_ := Aside0.mk ((ga hg BK622.out)); have n6_ := Aside0.mk ((gc hg BK622.out)); clear BK622; clear HB; have BK622 := n0_; have HB := n1_; have BK623 := n2_; have GW623 := n3_; have GE623 := n4_; have NB622_623 := n5_; have NB623_622 := n6_; clear n0_ n1_ n2_ n3_ n4_ n5_ n6_; clear hb hbox hg))
 have n0_ := Aside0.mk (blk_drew BK622.out)
 have n1_ := Aside0.mk (blk_drew BK623.out)
 have n2_ := Aside0.mk (below_drew1 HB.out)
 clear BK622; clear BK623; clear HB; have BK622 := n0_; have BK623 := n1_; have HB := n2_; clear n0_ n1_ n2_
 refine start_ (n := 5) (S := fun w' => w'.cell? ⟨gb622, 0, none⟩ = some (.slice A0_0 l0_0.length c0_0)) (ds := []) (bm 5 0) (by kernel_rfl) rfl (by kernel_rfl) (cl BK622 0) (fun hHeld => ?_)
 generalize w5.drew = w6 at BK622 BK623 HB hHeld ⊢
 refine tv_ 0 (some 3) (bm 5 1) hHeld ?_
 refine ov_ 1 (some 4) (bm 5 3) (fun K hK => ?_)
 refine gw_ Try.func87 #[] ?_
 with_reducible refine (impl_MemNew.calls  t624 t627 _ A2.out).mono ?_
 rintro e w7 ⟨v625, rfl, ho0, hb⟩
 refine ⟨_, rfl, ?_⟩
 have n0_ := Aside0.mk (Kd.R_lower ho0 (below_size (bw HB.out)))
 have n1_ := Aside0.mk (blk_below (g := gb622) (o := .cells #[.slice A0_0 l0_0.length c0_0] 29 (0, 0)) (kb BK622.out) hb)
 have n2_ := Aside0.mk (blk_below (g := gb623) (o := .cells #[.int .i64 0, .int .i64 0, .int .i64 0, .int .i64 0, .bool false, .bool false, .bool false, .bool false] 55 (0, 0)) (kb BK623.out) hb)
 have n3_ := Aside0.mk (below_step (bw HB.out) hb)
 clear BK622; clear BK623; clear HB; have HO626 := n0_; have BK622 := n1_; have BK623 := n2_; have HB := n3_; clear n0_ n1_ n2_ n3_; (try clear hb); (try clear hb2); (try clear hk); (try clear hi); (try clear ho0)
 obtain ⟨Ao8, co8, eo8⟩ := Kd.R_slice HO626.out
 (first | subst eo8 | (injection eo8 with f1_ f2_ f3_; have f4_ := f1_.symm; have f5_ := f3_.symm; clear f1_ f2_ f3_; subst f4_; subst f5_))
 refine hK.out _ _ (cl BK622 0) (fun hHeld => ?_)
 clear hK K
 refine nw_ ?_
 refine ov_ 2 (some 5) (bm 5 7) (fun K hK => ?_)
 refine gw_ Try.func86 #[.agg #[.slice A0_0 l0_0.length c0_0], .agg #[.slice Ao8 t624.length co8, .int .i64 t627], .int .i64 65532] ?_
 with_reducible refine (impl_vectorOf.calls k _ _ l0_0 _ _ t624 t627 65532 t628 _ ?side1 ?side2 ?side3 ?side4 A3.out).mono ?_
 (case side1 => exact kc (Kd.C_below HR0_0.out HB.out))
 (case side2 => exact HC0_0.out)
 (case side3 => exact kc (Kd.R_reads' HO626.out).2.2)
 (case side4 => exact (Kd.R_reads' HO626.out).2.1)
 rintro e w9 ⟨rfl, hb⟩
 refine ⟨_, rfl, ?_⟩
 have n0_ := Aside0.mk (Kd.R_below (kr HO626.out) hb)
 have n1_ := Aside0.mk (blk_below (g := gb622) (o := .cells #[.slice A0_0 l0_0.length c0_0] 29 (0, 0)) (kb BK622.out) hb)
 have n2_ := Aside0.mk (blk_below (g := gb623) (o := .cells #[.int .i64 0, .int .i64 0, .int .i64 0, .int .i64 0, .bool false, .bool false, .bool false, .bool false] 55 (0, 0)) (kb BK623.out) hb)
 have n3_ := Aside0.mk (below_step (bw HB.out) hb)
 clear HO626; clear BK622; clear BK623; clear HB; have HO626 := n0_; have BK622 := n1_; have BK623 := n2_; have HB := n3_; clear n0_ n1_ n2_ n3_; (try clear hb); (try clear hb2); (try clear hk); (try clear hi)
 refine hK.out _ _ (cl BK622 0) (fun hHeld => ?_)
 clear hK K
 refine nw_ ?_
 refine pv_ 3 (some 6) (bm 5 15) ?_
 refine ov_ 4 none (bm 5 31) (fun K hK => ?_)
 have hs10 : w9.cell? ⟨gb623, 0, none⟩ = some (.int .i64 0) := cl BK623 0
 have hfs10 := blk_frozen BK623.out 0
 have hns10_0 := NB622_623.out
 have hms10_0 := NB623_622.out
 have hs11 : w9.cell? ⟨gb623, 1, none⟩ = some (.int .i64 0) := cl BK623 1
 have hfs11 := blk_frozen BK623.out 1
 have hns11_0 := NB622_623.out
 have hms11_0 := NB623_622.out
 have hs12 : w9.cell? ⟨gb623, 2, none⟩ = some (.int .i64 0) := cl BK623 2
 have hfs12 := blk_frozen BK623.out 2
 have hns12_0 := NB622_623.out
 have hms12_0 := NB623_622.out
 have hs13 : w9.cell? ⟨gb623, 3, none⟩ = some (.int .i64 0) := cl BK623 3
 have hfs13 := blk_frozen BK623.out 3
 have hns13_0 := NB622_623.out
 have hms13_0 := NB623_622.out
 have hs14 : w9.cell? ⟨gb623, 4, none⟩ = some (.bool false) := cl BK623 4
 have hfs14 := blk_frozen BK623.out 4
 have hns14_0 := NB622_623.out
 have hms14_0 := NB623_622.out
 have hs15 : w9.cell? ⟨gb623, 5, none⟩ = some (.bool false) := cl BK623 5
 have hfs15 := blk_frozen BK623.out 5
 have hns15_0 := NB622_623.out
 have hms15_0 := NB623_622.out
 have hs16 : w9.cell? ⟨gb623, 6, none⟩ = some (.bool false) := cl BK623 6
 have hfs16 := blk_frozen BK623.out 6
 have hns16_0 := NB622_623.out
 have hms16_0 := NB623_622.out
 have hs17 : w9.cell? ⟨gb623, 7, none⟩ = some (.bool false) := cl BK623 7
 have hfs17 := blk_frozen BK623.out 7
 have hns17_0 := NB622_623.out
 have hms17_0 := NB623_622.out
 refine skip_ (w1 := ?_) (by rfl) rfl ?_ ?_
 rotate_left
 ·go_simp
  rfl
 refine hK.out _ _ (((cell_far (p := ⟨gb623, _, none⟩) NB622_623.out _).trans (((cell_far (p := ⟨gb623, _, none⟩) NB622_623.out _).trans (((cell_far (p := ⟨gb623, _, none⟩) NB622_623.out _).trans (((cell_far (p := ⟨gb623, _, none⟩) NB622_623.out _).trans (((cell_far (p := ⟨gb623, _, none⟩) NB622_623.out _).trans (((cell_far (p := ⟨gb623, _, none⟩) NB622_623.out _).trans (((cell_far (p := ⟨gb623, _, none⟩) NB622_623.out _).trans (((cell_far (p := ⟨gb623, _, none⟩) NB622_623.out _).trans (hHeld))))))))))))))))) (fun hHeld => ?_)
 clear hK K
 refine done_ (by kernel_rfl) ?_
 try go_wp2
 refine bodyPost_ret (results_cell_row rfl _ _ gb623 55 #[.int .i64 0, .int .i64 0, .int .i64 255, .int .i64 t628, .bool false, .bool false, .bool false, .bool true] (0, 0) _ rfl (by (with_reducible repeat (first | refine blk_drewN ?_ _ | refine blk_drew ?_ | refine blk_alloc ?_ _)); refine blk_put (cs := #[.int .i64 0, .int .i64 0, .int .i64 255, .int .i64 t628, .bool false, .bool false, .bool false, .bool false]) ?_ 7 _ rfl; (with_reducible repeat (first | refine blk_drewN ?_ _ | refine blk_drew ?_ | refine blk_alloc ?_ _)); refine blk_put (cs := #[.int .i64 0, .int .i64 0, .int .i64 255, .int .i64 t628, .bool false, .bool false, .bool false, .bool false]) ?_ 6 _ rfl; (with_reducible repeat (first | refine blk_drewN ?_ _ | refine blk_drew ?_ | refine blk_alloc ?_ _)); refine blk_put (cs := #[.int .i64 0, .int .i64 0, .int .i64 255, .int .i64 t628, .bool false, .bool false, .bool false, .bool false]) ?_ 5 _ rfl; (with_reducible repeat (first | refine blk_drewN ?_ _ | refine blk_drew ?_ | refine blk_alloc ?_ _)); refine blk_put (cs := #[.int .i64 0, .int .i64 0, .int .i64 255, .int .i64 t628, .bool false, .bool false, .bool false, .bool false]) ?_ 4 _ rfl; (with_reducible repeat (first | refine blk_drewN ?_ _ | refine blk_drew ?_ | refine blk_alloc ?_ _)); refine blk_put (cs := #[.int .i64 0, .int .i64 0, .int .i64 255, .int .i64 0, .bool false, .bool false, .bool false, .bool false]) ?_ 3 _ rfl; (with_reducible repeat (first | refine blk_drewN ?_ _ | refine blk_drew ?_ | refine blk_alloc ?_ _)); refine blk_put (cs := #[.int .i64 0, .int .i64 0, .int .i64 0, .int .i64 0, .bool false, .bool false, .bool false, .bool false]) ?_ 2 _ rfl; (with_reducible repeat (first | refine blk_drewN ?_ _ | refine blk_drew ?_ | refine blk_alloc ?_ _)); refine blk_put (cs := #[.int .i64 0, .int .i64 0, .int .i64 0, .int .i64 0, .bool false, .bool false, .bool false, .bool false]) ?_ 1 _ rfl; (with_reducible repeat (first | refine blk_drewN ?_ _ | refine blk_drew ?_ | refine blk_alloc ?_ _)); refine blk_put (cs := #[.int .i64 0, .int .i64 0, .int .i64 0, .int .i64 0, .bool false, .bool false, .bool false, .bool false]) ?_ 0 _ rfl; (with_reducible repeat (first | refine blk_drewN ?_ _ | refine blk_drew ?_ | refine blk_alloc ?_ _)); exact BK623.out) Try.underlying55 rfl (by kernel_rfl)) rfl ?_
 exact ⟨rt, bw HB.out⟩

/-! ### spec_CpuNew: function 46 -/
def spec_CpuNew.f (k : Nat) (l0_0 : List (List Int)) : Option (Int × Int × Int × Int × Bool × Bool × Bool × Bool) := (spec_MemNew.f).bind fun bt631 => ((spec_Peek.f k l0_0 bt631.1 bt631.2 65532).bind fun t636 => ((spec_Peek.f k l0_0 bt631.1 bt631.2 65533).bind fun t637 => ((spec_Join.f t636 t637).bind fun t638 => (some (0, 0, 255, t638, false, false, false, true)))))
def spec_CpuNew.T2 : Bool × List (List Nat × List Nat) := (true, [([], []), ([], []), ([0, 1], [0, 1]), ([], []), ([], []), ([3, 4, 2], [3, 4]), ([2, 5, 5], [2, 5]), ([6], [6]), ([7, 6, 0, 1, 2, 3, 4, 5, 6, 7], [7])])
def spec_CpuNew.B2 : List Nat := [0, 0, 3, 0, 0, 31, 63, 127, 255]
theorem spec_CpuNew.tab2 : rtab .any (opsOf Try.f46 2) = spec_CpuNew.T2 := by kernel_rfl
theorem spec_CpuNew.bits2 : waitsOk spec_CpuNew.T2.2 spec_CpuNew.B2 = true := by kernel_rfl
set_option maxHeartbeats 8000000 in
set_option maxRecDepth 100000 in
theorem spec_CpuNew.calls (k : Nat) (A0_0 : Option Addr) (c0_0 : Nat) (l0_0 : List (List Int)) (r1 : Int) (r2 : Int) (r3 : Int) (r4 : Int) (r5 : Bool) (r6 : Bool) (r7 : Bool) (r8 : Bool) (w : World) (hr0_0 : Kd.C (Kd.slice 3 (Kd.int .i64)) w A0_0 l0_0.length l0_0) (hc0_0 : l0_0.length ≤ c0_0) (h : spec_CpuNew.f k l0_0 = some (r1, r2, r3, r4, r5, r6, r7, r8)) :
  Calls Try.prog 46 #[.agg #[.slice A0_0 l0_0.length c0_0]] w fun e w' => e = .returned (.agg #[.int .i64 r1, .int .i64 r2, .int .i64 r3, .int .i64 r4, .bool r5, .bool r6, .bool r7, .bool r8]) ∧ Below w.heap.size w w' := by
 have hu29 := Try.underlying29
 have hu55 := Try.underlying55
 have hu32 := Try.underlying32
 have HR0_0 := Aside0.mk hr0_0
 have HC0_0 := Aside0.mk hc0_0
 clear hr0_0 hc0_0
 have HB := Aside0.mk (Below.refl w.heap.size w)
 have H : ((spec_MemNew.f).bind fun bt631 => ((spec_Peek.f k l0_0 bt631.1 bt631.2 65532).bind fun t636 => ((spec_Peek.f k l0_0 bt631.1 bt631.2 65533).bind fun t637 => ((spec_Join.f t636 t637).bind fun t638 => (some (0, 0, 255, t638, false, false, false, true)))))) = some (r1, r2, r3, r4, r5, r6, r7, r8) := h
 clear h
 replace H := Option.bind_eq_some_iff.mp H
 obtain ⟨⟨t631, t634⟩, A20, H⟩ := H
 replace H : ((spec_Peek.f k l0_0 t631 t634 65532).bind fun t636 => ((spec_Peek.f k l0_0 t631 t634 65533).bind fun t637 => ((spec_Join.f t636 t637).bind fun t638 => (some (0, 0, 255, t638, false, false, false, true))))) = some (r1, r2, r3, r4, r5, r6, r7, r8) := H
 have A2 := Aside0.mk A20
 clear A20
 replace H := Option.bind_eq_some_iff.mp H
 obtain ⟨t636, A30, H⟩ := H
 replace H : ((spec_Peek.f k l0_0 t631 t634 65533).bind fun t637 => ((spec_Join.f t636 t637).bind fun t638 => (some (0, 0, 255, t638, false, false, false, true)))) = some (r1, r2, r3, r4, r5, r6, r7, r8) := H
 have A3 := Aside0.mk A30
 clear A30
 replace H := Option.bind_eq_some_iff.mp H
 obtain ⟨t637, A40, H⟩ := H
 replace H : ((spec_Join.f t636 t637).bind fun t638 => (some (0, 0, 255, t638, false, false, false, true))) = some (r1, r2, r3, r4, r5, r6, r7, r8) := H
 have A4 := Aside0.mk A40
 clear A40
 replace H := Option.bind_eq_some_iff.mp H
 obtain ⟨t638, A50, H⟩ := H
 replace H : (some (0, 0, 255, t638, false, false, false, true)) = some (r1, r2, r3, r4, r5, r6, r7, r8) := H
 have A5 := Aside0.mk A50
 clear A50
 simp only [Option.some.injEq, Prod.mk.injEq] at H
 obtain ⟨rfl, rfl, rfl, rfl, rfl, rfl, rfl, rfl⟩ := H
 go_enter Try.func46, Try.ntmps46
 try go_wp2_with (first | ((with_reducible refine gate_dst (N := 1) rfl ?_); refine bx (N := 1) (cs := #[.slice A0_0 l0_0.length c0_0]) (t := 29) ?_; intro gb629 hg w6 hbox hb; have n0_ := Aside0.mk (below_step (bw HB.out) hb); have n1_ := Aside0.mk (hbox); have n2_ := Aside0.mk ((gs hg (bw HB.out))); have n3_ := Aside0.mk ((gs hg (bw HB.out))); clear HB; have HB := n0_; have BK629 := n1_; have GW629 := n2_; have GE629 := n3_; clear n0_ n1_ n2_ n3_; clear hb hbox hg) | ((with_reducible refine gate_dst (N := 2) rfl ?_); refine bx (N := 2) (cs := #[.int .i64 0, .int .i64 0, .int .i64 0, .int .i64 0, .bool false, .bool false, .bool false, .bool false]) (t := 55) ?_; intro gb630 hg w7 hbox hb; have n0_ := Aside0.mk (blk_below (g := gb629) (o := .cells #[.slice A0_0 l0_0.length c0_0] 29 (0, 0)) (kb BK629.out) hb); have n1_ := Aside0.mk (below_step (bw HB.out) hb); have n2_ := Aside0.mk (hbox); have n3_ := Aside0.mk ((gs hg (bw HB.out))); have n4_ := Aside0.mk ((gs hg (bw HB.out))); have n5_ := Aside0.mk ((ga hg BK629.out)); have n6_ := Aside0.mk ((gc hg BK629.out)); clear BK629; clear HB; have BK629 := n0_; have HB := n1_; have BK630 := n2_; have GW630 := n3_; have GE630 := n4_; have NB629_630 := n5_; have NB630_629 := n6_; clear n0_ n1_ n2_ n3_ n4_ n5_ n6_; clear hb hbox hg) | ((with_reducible refine gate_callee (f := 88) rfl ?_); refine goesM_ (some 4) rfl rfl Try.func88 #[] ?_; (with_reducible refine (spec_MemNew.calls  t631 t634 _ A2.out).mono ?_); rintro e w8 ⟨v632, rfl, ho0, hb⟩; refine ⟨_, rfl, ?_⟩; have n0_ := Aside0.mk (Kd.R_lower ho0 (below_size (bw HB.out))); have n1_ := Aside0.mk (blk_below (g := gb629) (o := .cells #[.slice A0_0 l0_0.length c0_0] 29 (0, 0)) (kb BK629.out) hb); have n2_ := Aside0.mk (blk_below (g := gb630) (o := .cells #[.int .i64 0, .int .i64 0, .int .i64 0, .int .i64 0, .bool false, .bool false, .bool false, .bool false] 55 (0, 0)) (kb BK630.out) hb); have n3_ := Aside0.mk (below_step (bw HB.out) hb); clear BK629; clear BK630; clear HB; have HO633 := n0_; have BK629 := n1_; have BK630 := n2_; have HB := n3_; clear n0_ n1_ n2_ n3_; (try clear hb); (try clear hb2); (try clear hk); (try clear hi); (try clear ho0)) | ((with_reducible refine gate_dst (N := 3) rfl ?_); refine bx (N := 3) (cs := #[.slice none 0 0, .int .i64 0]) (t := 32) ?_; intro gb635 hg w9 hbox hb; have n0_ := Aside0.mk (Kd.R_below (kr HO633.out) hb); have n1_ := Aside0.mk (blk_below (g := gb629) (o := .cells #[.slice A0_0 l0_0.length c0_0] 29 (0, 0)) (kb BK629.out) hb); have n2_ := Aside0.mk (blk_below (g := gb630) (o := .cells #[.int .i64 0, .int .i64 0, .int .i64 0, .int .i64 0, .bool false, .bool false, .bool false, .bool false] 55 (0, 0)) (kb BK630.out) hb); have n3_ := Aside0.mk (below_step (bw HB.out) hb); have n4_ := Aside0.mk (hbox); have n5_ := Aside0.mk ((gs hg (bw HB.out))); have n6_ := Aside0.mk ((gs hg (bw HB.out))); have n7_ := Aside0.mk ((ga hg BK629.out)); have n8_ := Aside0.mk ((gc hg BK629.out)); have n9_ := Aside0.mk ((ga hg BK630.out)); have n10_ := Aside0.mk ((gc hg BK630.out)); clear HO633; clear BK629; clear BK630; clear HB; have HO633 := n0_; have BK629 := n1_; have BK630 := n2_; have HB := n3_; have BK635 := n4_; have GW635 := n5_; have GE635 := n6_; have NB629_635 := n7_; have NB635_629 := n8_; have NB630_635 := n9_; have NB635_630 := n10_; clear n0_ n1_ n2_ n3_ n4_ n5_ n6_ n7_ n8_ n9_ n10_; clear hb hbox hg; obtain ⟨Ao10, co10, eo10⟩ := Kd.R_slice HO633.out; subst eo10; have hnb11 := NB635_629.out; have hnc11 := NB629_635.out; have hnb12 := NB635_630.out; have hnc12 := NB630_635.out; have hcz13_0 : w9.cell? ⟨gb635, 0, none⟩ = some (.slice none 0 0) := cl BK635 0; have hcz13_1 : w9.cell? ⟨gb635, 1, none⟩ = some (.int .i64 0) := cl BK635 1; have hfz13_0 := blk_frozen BK635.out 0; have hfz13_1 := blk_frozen BK635.out 1))
 have n0_ : Aside0 (Kd.R (Kd.int .i64) 3 ((w9.setCell ⟨gb635, 0, none⟩ (.slice Ao10 t631.length co10)).setCell ⟨gb635, 1, none⟩ (.int .i64 t634)) w.heap.size (fun _ => True) (.slice Ao10 t631.length co10) t631) := ⟨kr (Kd.R_mono (Kd.R_far (p := ⟨gb635, 1, none⟩) (Kd.R_far (p := ⟨gb635, 0, none⟩) (Kd.R_types HO633.out BK635.out (by decide)) (fun _ hk => hk.2) (.slice Ao10 t631.length co10)) (fun _ hk => hk.2) (.int .i64 t634)) (fun _ hk => trivial))⟩
 have n1_ : Aside0 (((w9.setCell ⟨gb635, 0, none⟩ (.slice Ao10 t631.length co10)).setCell ⟨gb635, 1, none⟩ (.int .i64 t634)).heap[gb629]? = some (.cells #[.slice A0_0 l0_0.length c0_0] 29 (0, 0))) := ⟨kf BK629.out⟩
 have n2_ : Aside0 (((w9.setCell ⟨gb635, 0, none⟩ (.slice Ao10 t631.length co10)).setCell ⟨gb635, 1, none⟩ (.int .i64 t634)).heap[gb630]? = some (.cells #[.int .i64 0, .int .i64 0, .int .i64 0, .int .i64 0, .bool false, .bool false, .bool false, .bool false] 55 (0, 0))) := ⟨kf BK630.out⟩
 have n3_ : Aside0 (((w9.setCell ⟨gb635, 0, none⟩ (.slice Ao10 t631.length co10)).setCell ⟨gb635, 1, none⟩ (.int .i64 t634)).heap[gb635]? = some (.cells #[.slice Ao10 t631.length co10, .int .i64 t634] 32 (0, 0))) := ⟨by (with_reducible repeat (first | refine blk_drewN ?_ _ | refine blk_drew ?_ | refine blk_alloc ?_ _)); refine blk_put (cs := #[.slice Ao10 t631.length co10, .int .i64 0]) ?_ 1 _ rfl; (with_reducible repeat (first | refine blk_drewN ?_ _ | refine blk_drew ?_ | refine blk_alloc ?_ _)); refine blk_put (cs := #[.slice none 0 0, .int .i64 0]) ?_ 0 _ rfl; (with_reducible repeat (first | refine blk_drewN ?_ _ | refine blk_drew ?_ | refine blk_alloc ?_ _)); exact BK635.out⟩
 have n4_ : Aside0 (Below w.heap.size w ((w9.setCell ⟨gb635, 0, none⟩ (.slice Ao10 t631.length co10)).setCell ⟨gb635, 1, none⟩ (.int .i64 t634))) := ⟨bw HB.out⟩
 (try clear HO633); (try clear BK629); (try clear BK630); (try clear BK635); (try clear HB)
 generalize ((w9.setCell ⟨gb635, 0, none⟩ (.slice Ao10 t631.length co10)).setCell ⟨gb635, 1, none⟩ (.int .i64 t634)) = w14 at n0_ n1_ n2_ n3_ n4_ ⊢
 have HO633 := n0_; have BK629 := n1_; have BK630 := n2_; have BK635 := n3_; have HB := n4_; clear n0_ n1_ n2_ n3_ n4_
 have n0_ := Aside0.mk (Kd.R_drew HO633.out)
 have n1_ := Aside0.mk (blk_drew BK629.out)
 have n2_ := Aside0.mk (blk_drew BK630.out)
 have n3_ := Aside0.mk (blk_drew BK635.out)
 have n4_ := Aside0.mk (below_drew1 HB.out)
 clear HO633; clear BK629; clear BK630; clear BK635; clear HB; have HO633 := n0_; have BK629 := n1_; have BK630 := n2_; have BK635 := n3_; have HB := n4_; clear n0_ n1_ n2_ n3_ n4_
 refine start_ (n := 9) (S := fun w' => w'.cell? ⟨gb629, 0, none⟩ = some (.slice A0_0 l0_0.length c0_0) ∧ w'.cell? ⟨gb635, 0, none⟩ = some (.slice Ao10 t631.length co10) ∧ w'.cell? ⟨gb635, 1, none⟩ = some (.int .i64 t634)) (ds := []) (bm 9 0) (by kernel_rfl) rfl (by kernel_rfl) ⟨cl BK629 0, cl BK635 0, cl BK635 1⟩ (fun hHeld => ?_); refine with_tabW spec_CpuNew.tab2 spec_CpuNew.bits2 (fun HT_ HW_ => ?_)
 generalize w14.drew = w15 at HO633 BK629 BK630 BK635 HB hHeld ⊢
 refine tw_ 0 (some 5) (bm 9 1) HT_ HW_ hHeld ?_
 refine tw_ 1 (some 6) (bm 9 3) HT_ HW_ hHeld ?_
 refine tw_ 3 (some 8) (bm 9 11) HT_ HW_ hHeld ?_
 refine tw_ 4 (some 9) (bm 9 27) HT_ HW_ hHeld ?_
 refine ow_ 2 (some 7) (bm 9 31) HT_ (fun K hK => ?_)
 refine gw_ Try.func15 #[.agg #[.slice A0_0 l0_0.length c0_0], .agg #[.slice Ao10 t631.length co10, .int .i64 t634], .int .i64 65532] ?_
 with_reducible refine (spec_Peek.calls k _ _ l0_0 _ _ t631 t634 65532 t636 _ ?side1 ?side2 ?side3 ?side4 A3.out).mono ?_
 (case side1 => exact kc (Kd.C_below HR0_0.out HB.out))
 (case side2 => exact HC0_0.out)
 (case side3 => exact kc (Kd.R_reads' HO633.out).2.2)
 (case side4 => exact (Kd.R_reads' HO633.out).2.1)
 rintro e w16 ⟨rfl, hb⟩
 refine ⟨_, rfl, ?_⟩
 have n0_ := Aside0.mk (Kd.R_below (kr HO633.out) hb)
 have n1_ := Aside0.mk (blk_below (g := gb629) (o := .cells #[.slice A0_0 l0_0.length c0_0] 29 (0, 0)) (kb BK629.out) hb)
 have n2_ := Aside0.mk (blk_below (g := gb630) (o := .cells #[.int .i64 0, .int .i64 0, .int .i64 0, .int .i64 0, .bool false, .bool false, .bool false, .bool false] 55 (0, 0)) (kb BK630.out) hb)
 have n3_ := Aside0.mk (blk_below (g := gb635) (o := .cells #[.slice Ao10 t631.length co10, .int .i64 t634] 32 (0, 0)) (kb BK635.out) hb)
 have n4_ := Aside0.mk (below_step (bw HB.out) hb)
 clear HO633; clear BK629; clear BK630; clear BK635; clear HB; have HO633 := n0_; have BK629 := n1_; have BK630 := n2_; have BK635 := n3_; have HB := n4_; clear n0_ n1_ n2_ n3_ n4_; (try clear hb); (try clear hb2); (try clear hk); (try clear hi)
 refine hK.out _ _ ⟨cl BK629 0, cl BK635 0, cl BK635 1⟩ (fun hHeld => ?_)
 clear hK K
 refine nw_ ?_
 refine ow_ 5 (some 10) (bm 9 63) HT_ (fun K hK => ?_)
 refine gw_ Try.func15 #[.agg #[.slice A0_0 l0_0.length c0_0], .agg #[.slice Ao10 t631.length co10, .int .i64 t634], .int .i64 65533] ?_
 with_reducible refine (spec_Peek.calls k _ _ l0_0 _ _ t631 t634 65533 t637 _ ?side1 ?side2 ?side3 ?side4 A4.out).mono ?_
 (case side1 => exact kc (Kd.C_below HR0_0.out HB.out))
 (case side2 => exact HC0_0.out)
 (case side3 => exact kc (Kd.R_reads' HO633.out).2.2)
 (case side4 => exact (Kd.R_reads' HO633.out).2.1)
 rintro e w17 ⟨rfl, hb⟩
 refine ⟨_, rfl, ?_⟩
 have n0_ := Aside0.mk (Kd.R_below (kr HO633.out) hb)
 have n1_ := Aside0.mk (blk_below (g := gb629) (o := .cells #[.slice A0_0 l0_0.length c0_0] 29 (0, 0)) (kb BK629.out) hb)
 have n2_ := Aside0.mk (blk_below (g := gb630) (o := .cells #[.int .i64 0, .int .i64 0, .int .i64 0, .int .i64 0, .bool false, .bool false, .bool false, .bool false] 55 (0, 0)) (kb BK630.out) hb)
 have n3_ := Aside0.mk (blk_below (g := gb635) (o := .cells #[.slice Ao10 t631.length co10, .int .i64 t634] 32 (0, 0)) (kb BK635.out) hb)
 have n4_ := Aside0.mk (below_step (bw HB.out) hb)
 clear HO633; clear BK629; clear BK630; clear BK635; clear HB; have HO633 := n0_; have BK629 := n1_; have BK630 := n2_; have BK635 := n3_; have HB := n4_; clear n0_ n1_ n2_ n3_ n4_; (try clear hb); (try clear hb2); (try clear hk); (try clear hi)
 refine hK.out _ _ ⟨cl BK629 0, cl BK635 0, cl BK635 1⟩ (fun hHeld => ?_)
 clear hK K
 refine nw_ ?_
 refine ow_ 6 (some 11) (bm 9 127) HT_ (fun K hK => ?_)
 refine gw_ Try.func82 #[.int .i64 t636, .int .i64 t637] ?_
 with_reducible refine (spec_Join.calls t636 t637 t638 _ A5.out).mono ?_
 rintro e w' ⟨rfl, ⟨nd, rfl⟩⟩
 refine ⟨_, rfl, ?_⟩
 have n0_ := Aside0.mk (Kd.R_drewN HO633.out nd)
 have n1_ := Aside0.mk (blk_drewN BK629.out nd)
 have n2_ := Aside0.mk (blk_drewN BK630.out nd)
 have n3_ := Aside0.mk (blk_drewN BK635.out nd)
 have n4_ := Aside0.mk (pw_below_drewN HB.out nd)
 clear HO633; clear BK629; clear BK630; clear BK635; clear HB; have HO633 := n0_; have BK629 := n1_; have BK630 := n2_; have BK635 := n3_; have HB := n4_; clear n0_ n1_ n2_ n3_ n4_
 generalize w17.drewN nd = w17 at HO633 BK629 BK630 BK635 HB ⊢
 refine hK.out _ _ ⟨cl BK629 0, cl BK635 0, cl BK635 1⟩ (fun hHeld => ?_)
 clear hK K
 refine nw_ ?_
 refine pw_ 7 (some 12) (bm 9 255) HT_ ?_
 refine ow_ 8 none (bm 9 511) HT_ (fun K hK => ?_)
 have hs18 : w17.cell? ⟨gb630, 0, none⟩ = some (.int .i64 0) := cl BK630 0
 have hfs18 := blk_frozen BK630.out 0
 have hns18_0 := NB629_630.out
 have hns18_2 := NB635_630.out
 have hms18_0 := NB630_629.out
 have hms18_2 := NB630_635.out
 have hs19 : w17.cell? ⟨gb630, 1, none⟩ = some (.int .i64 0) := cl BK630 1
 have hfs19 := blk_frozen BK630.out 1
 have hns19_0 := NB629_630.out
 have hns19_2 := NB635_630.out
 have hms19_0 := NB630_629.out
 have hms19_2 := NB630_635.out
 have hs20 : w17.cell? ⟨gb630, 2, none⟩ = some (.int .i64 0) := cl BK630 2
 have hfs20 := blk_frozen BK630.out 2
 have hns20_0 := NB629_630.out
 have hns20_2 := NB635_630.out
 have hms20_0 := NB630_629.out
 have hms20_2 := NB630_635.out
 have hs21 : w17.cell? ⟨gb630, 3, none⟩ = some (.int .i64 0) := cl BK630 3
 have hfs21 := blk_frozen BK630.out 3
 have hns21_0 := NB629_630.out
 have hns21_2 := NB635_630.out
 have hms21_0 := NB630_629.out
 have hms21_2 := NB630_635.out
 have hs22 : w17.cell? ⟨gb630, 4, none⟩ = some (.bool false) := cl BK630 4
 have hfs22 := blk_frozen BK630.out 4
 have hns22_0 := NB629_630.out
 have hns22_2 := NB635_630.out
 have hms22_0 := NB630_629.out
 have hms22_2 := NB630_635.out
 have hs23 : w17.cell? ⟨gb630, 5, none⟩ = some (.bool false) := cl BK630 5
 have hfs23 := blk_frozen BK630.out 5
 have hns23_0 := NB629_630.out
 have hns23_2 := NB635_630.out
 have hms23_0 := NB630_629.out
 have hms23_2 := NB630_635.out
 have hs24 : w17.cell? ⟨gb630, 6, none⟩ = some (.bool false) := cl BK630 6
 have hfs24 := blk_frozen BK630.out 6
 have hns24_0 := NB629_630.out
 have hns24_2 := NB635_630.out
 have hms24_0 := NB630_629.out
 have hms24_2 := NB630_635.out
 have hs25 : w17.cell? ⟨gb630, 7, none⟩ = some (.bool false) := cl BK630 7
 have hfs25 := blk_frozen BK630.out 7
 have hns25_0 := NB629_630.out
 have hns25_2 := NB635_630.out
 have hms25_0 := NB630_629.out
 have hms25_2 := NB630_635.out
 refine skip_ (w1 := ?_) (by rfl) rfl ?_ ?_
 rotate_left
 ·go_simp
  rfl
 refine hK.out _ _ ⟨((cell_far (p := ⟨gb630, _, none⟩) NB629_630.out _).trans (((cell_far (p := ⟨gb630, _, none⟩) NB629_630.out _).trans (((cell_far (p := ⟨gb630, _, none⟩) NB629_630.out _).trans (((cell_far (p := ⟨gb630, _, none⟩) NB629_630.out _).trans (((cell_far (p := ⟨gb630, _, none⟩) NB629_630.out _).trans (((cell_far (p := ⟨gb630, _, none⟩) NB629_630.out _).trans (((cell_far (p := ⟨gb630, _, none⟩) NB629_630.out _).trans (((cell_far (p := ⟨gb630, _, none⟩) NB629_630.out _).trans (hHeld.1)))))))))))))))), ((cell_far (p := ⟨gb630, _, none⟩) NB635_630.out _).trans (((cell_far (p := ⟨gb630, _, none⟩) NB635_630.out _).trans (((cell_far (p := ⟨gb630, _, none⟩) NB635_630.out _).trans (((cell_far (p := ⟨gb630, _, none⟩) NB635_630.out _).trans (((cell_far (p := ⟨gb630, _, none⟩) NB635_630.out _).trans (((cell_far (p := ⟨gb630, _, none⟩) NB635_630.out _).trans (((cell_far (p := ⟨gb630, _, none⟩) NB635_630.out _).trans (((cell_far (p := ⟨gb630, _, none⟩) NB635_630.out _).trans (hHeld.2.1)))))))))))))))), ((cell_far (p := ⟨gb630, _, none⟩) NB635_630.out _).trans (((cell_far (p := ⟨gb630, _, none⟩) NB635_630.out _).trans (((cell_far (p := ⟨gb630, _, none⟩) NB635_630.out _).trans (((cell_far (p := ⟨gb630, _, none⟩) NB635_630.out _).trans (((cell_far (p := ⟨gb630, _, none⟩) NB635_630.out _).trans (((cell_far (p := ⟨gb630, _, none⟩) NB635_630.out _).trans (((cell_far (p := ⟨gb630, _, none⟩) NB635_630.out _).trans (((cell_far (p := ⟨gb630, _, none⟩) NB635_630.out _).trans (hHeld.2.2))))))))))))))))⟩ (fun hHeld => ?_)
 clear hK K
 refine done_ (done_of HT_.out (by kernel_rfl)) ?_
 try go_wp2
 refine bodyPost_ret (results_cell_row rfl _ _ gb630 55 #[.int .i64 0, .int .i64 0, .int .i64 255, .int .i64 t638, .bool false, .bool false, .bool false, .bool true] (0, 0) _ rfl (by (with_reducible repeat (first | refine blk_drewN ?_ _ | refine blk_drew ?_ | refine blk_alloc ?_ _)); refine blk_put (cs := #[.int .i64 0, .int .i64 0, .int .i64 255, .int .i64 t638, .bool false, .bool false, .bool false, .bool false]) ?_ 7 _ rfl; (with_reducible repeat (first | refine blk_drewN ?_ _ | refine blk_drew ?_ | refine blk_alloc ?_ _)); refine blk_put (cs := #[.int .i64 0, .int .i64 0, .int .i64 255, .int .i64 t638, .bool false, .bool false, .bool false, .bool false]) ?_ 6 _ rfl; (with_reducible repeat (first | refine blk_drewN ?_ _ | refine blk_drew ?_ | refine blk_alloc ?_ _)); refine blk_put (cs := #[.int .i64 0, .int .i64 0, .int .i64 255, .int .i64 t638, .bool false, .bool false, .bool false, .bool false]) ?_ 5 _ rfl; (with_reducible repeat (first | refine blk_drewN ?_ _ | refine blk_drew ?_ | refine blk_alloc ?_ _)); refine blk_put (cs := #[.int .i64 0, .int .i64 0, .int .i64 255, .int .i64 t638, .bool false, .bool false, .bool false, .bool false]) ?_ 4 _ rfl; (with_reducible repeat (first | refine blk_drewN ?_ _ | refine blk_drew ?_ | refine blk_alloc ?_ _)); refine blk_put (cs := #[.int .i64 0, .int .i64 0, .int .i64 255, .int .i64 0, .bool false, .bool false, .bool false, .bool false]) ?_ 3 _ rfl; (with_reducible repeat (first | refine blk_drewN ?_ _ | refine blk_drew ?_ | refine blk_alloc ?_ _)); refine blk_put (cs := #[.int .i64 0, .int .i64 0, .int .i64 0, .int .i64 0, .bool false, .bool false, .bool false, .bool false]) ?_ 2 _ rfl; (with_reducible repeat (first | refine blk_drewN ?_ _ | refine blk_drew ?_ | refine blk_alloc ?_ _)); refine blk_put (cs := #[.int .i64 0, .int .i64 0, .int .i64 0, .int .i64 0, .bool false, .bool false, .bool false, .bool false]) ?_ 1 _ rfl; (with_reducible repeat (first | refine blk_drewN ?_ _ | refine blk_drew ?_ | refine blk_alloc ?_ _)); refine blk_put (cs := #[.int .i64 0, .int .i64 0, .int .i64 0, .int .i64 0, .bool false, .bool false, .bool false, .bool false]) ?_ 0 _ rfl; (with_reducible repeat (first | refine blk_drewN ?_ _ | refine blk_drew ?_ | refine blk_alloc ?_ _)); exact BK630.out) Try.underlying55 rfl (by kernel_rfl)) rfl ?_
 exact ⟨rt, bw HB.out⟩

end Go.Proofs.Ytmkccgbfgebfbaa.MFnFetched
