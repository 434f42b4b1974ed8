/- Walks of functions that the law FnMemory reaches: each comes to just what its Lean function says. (Begun as the texts that print.sh wrote for this claim; some of them, and those that it does not write, are mine.) No condition. -/
import Derived.Test.YtmkccgbfgebfbaaMFnMemoryx4
namespace Go.Proofs.Ytmkccgbfgebfbaa.MFnMemory
open Go.RowKit Go.Proofs.YtmkccgbfgebfbaaW.PrintWords Go.Proofs.YtmkccgbfgebfbaaW.PrintLast Go.Proofs.YtmkccgbfgebfbaaW.PrintMore
attribute [local go_sem] max2_int min2_int max_two min_two max_three min_three max_four min_four   -- for this text's walks alone
set_option linter.unusedVariables false
set_option linter.unusedSimpArgs false

/-! ### spec_Poke: function 31 -/
def spec_Poke.f (k : Nat) (l0_0 : List (List Int)) (l1_0 : List Int) (a1_1 : Int) (a2 : Int) (a3 : Int) : Option (List Int × Int) := (spec_l6Copy.f l1_0 a1_1).bind fun bt472 => ((spec_MemOk.f k l0_0 l1_0 a1_1).bind fun t477 => (if t477 = true then ((spec_Region.f a2).bind fun bt478 => (if bt478.1 = 1 then ((spec_Byte.f a3).bind fun t480 => (if 0 ≤ bt478.2 then (if bt478.2 < (bt472.1.length : Int) then (some ((bt472.1.set (bt478.2 : Int).toNat t480), bt472.2)) else (none)) else (none))) else (if bt478.1 = 5 then ((spec_Byte.f a3).bind fun t482 => (if (l0_0.length : Int) = 0 then (none) else (some (bt472.1, Int.tmod t482 (l0_0.length : Int))))) else (if bt478.1 = 6 then ((spec_Byte.f a3).bind fun t483 => (if (l0_0.length : Int) = 0 then (none) else (some (bt472.1, Int.tmod t483 (l0_0.length : Int))))) else (some (bt472.1, bt472.2)))))) else (some (bt472.1, bt472.2))))
theorem spec_Poke.mono : ∀ a0 a1 a2 a3 a4 k, LeO (spec_Poke.f k a0 a1 a2 a3 a4) (spec_Poke.f (k + 1) a0 a1 a2 a3 a4) := by
 intro a0 a1 a2 a3 a4 k
 unfold spec_Poke.f
 repeat' first
   | (with_reducible exact spec_MemOk.mono _ _ _ _)
   | (with_reducible exact LeO.refl _)
   | (with_reducible exact LeO.none _)
   | (with_reducible refine LeO.ite ?_ ?_)
   | (with_reducible refine LeO.bind ?_ (fun _ => ?_))
   | exact spec_MemOk.mono _ _ _ _
   | exact LeO.none _
   | refine LeO.ite ?_ ?_
   | refine LeO.bind ?_ (fun _ => ?_)
def spec_Poke.T10 : Bool × List (List Nat × List Nat) := (true, [([], []), ([0], [0]), ([], []), ([2], [2]), ([3], [3]), ([1, 4], [1, 4]), ([0, 1, 2, 3, 4, 5], []), ([6, 5, 1, 0, 1, 2, 3, 4, 5], [5, 6])])
def spec_Poke.B10 : List Nat := [0, 1, 0, 4, 12, 31, 63, 127]
theorem spec_Poke.tab10 : rtab .any (opsOf Try.f31 10) = spec_Poke.T10 := by kernel_rfl
theorem spec_Poke.bits10 : waitsOk spec_Poke.T10.2 spec_Poke.B10 = true := by kernel_rfl
set_option maxHeartbeats 8000000 in
set_option maxRecDepth 100000 in
theorem spec_Poke.calls (k : Nat) (A0_0 : Option Addr) (c0_0 : Nat) (l0_0 : List (List Int)) (A1_0 : Option Addr) (c1_0 : Nat) (l1_0 : List Int) (a1_1 : Int) (a2 : Int) (a3 : Int) (r1 : List Int) (r2 : Int) (w : World) (hr0_0 : Kd.C (Kd.slice 3 (Kd.int .i64)) w A0_0 l0_0.length l0_0) (hc0_0 : l0_0.length ≤ c0_0) (hr1_0 : Kd.C (Kd.int .i64) w A1_0 l1_0.length l1_0) (hc1_0 : l1_0.length ≤ c1_0) (h : spec_Poke.f k l0_0 l1_0 a1_1 a2 a3 = some (r1, r2)) :
  Calls Try.prog 31 #[.agg #[.slice A0_0 l0_0.length c0_0], .agg #[.slice A1_0 l1_0.length c1_0, .int .i64 a1_1], .int .i64 a2, .int .i64 a3] w fun e w' => ∃ v0_ : Value, e = .returned (.agg #[v0_, .int .i64 r2]) ∧ Kd.R (Kd.int .i64) 3 w' w.heap.size (fun _ => True) v0_ r1 ∧ Below w.heap.size w w' := by
 have hu29 := Try.underlying29
 have hu32 := Try.underlying32
 have HR0_0 := Aside0.mk hr0_0
 have HC0_0 := Aside0.mk hc0_0
 clear hr0_0 hc0_0
 have HR1_0 := Aside0.mk hr1_0
 have HC1_0 := Aside0.mk hc1_0
 clear hr1_0 hc1_0
 have HB := Aside0.mk (Below.refl w.heap.size w)
 have H : ((spec_l6Copy.f l1_0 a1_1).bind fun bt472 => ((spec_MemOk.f k l0_0 l1_0 a1_1).bind fun t477 => (if t477 = true then ((spec_Region.f a2).bind fun bt478 => (if bt478.1 = 1 then ((spec_Byte.f a3).bind fun t480 => (if 0 ≤ bt478.2 then (if bt478.2 < (bt472.1.length : Int) then (some ((bt472.1.set (bt478.2 : Int).toNat t480), bt472.2)) else (none)) else (none))) else (if bt478.1 = 5 then ((spec_Byte.f a3).bind fun t482 => (if (l0_0.length : Int) = 0 then (none) else (some (bt472.1, Int.tmod t482 (l0_0.length : Int))))) else (if bt478.1 = 6 then ((spec_Byte.f a3).bind fun t483 => (if (l0_0.length : Int) = 0 then (none) else (some (bt472.1, Int.tmod t483 (l0_0.length : Int))))) else (some (bt472.1, bt472.2)))))) else (some (bt472.1, bt472.2))))) = some (r1, r2) := h
 clear h
 replace H := Option.bind_eq_some_iff.mp H
 obtain ⟨⟨t472, t475⟩, A50, H⟩ := H
 replace H : ((spec_MemOk.f k l0_0 l1_0 a1_1).bind fun t477 => (if t477 = true then ((spec_Region.f a2).bind fun bt478 => (if bt478.1 = 1 then ((spec_Byte.f a3).bind fun t480 => (if 0 ≤ bt478.2 then (if bt478.2 < (t472.length : Int) then (some ((t472.set (bt478.2 : Int).toNat t480), t475)) else (none)) else (none))) else (if bt478.1 = 5 then ((spec_Byte.f a3).bind fun t482 => (if (l0_0.length : Int) = 0 then (none) else (some (t472, Int.tmod t482 (l0_0.length : Int))))) else (if bt478.1 = 6 then ((spec_Byte.f a3).bind fun t483 => (if (l0_0.length : Int) = 0 then (none) else (some (t472, Int.tmod t483 (l0_0.length : Int))))) else (some (t472, t475)))))) else (some (t472, t475)))) = some (r1, r2) := H
 have A5 := Aside0.mk A50
 clear A50
 replace H := Option.bind_eq_some_iff.mp H
 obtain ⟨t477, A60, H⟩ := H
 replace H : (if t477 = true then ((spec_Region.f a2).bind fun bt478 => (if bt478.1 = 1 then ((spec_Byte.f a3).bind fun t480 => (if 0 ≤ bt478.2 then (if bt478.2 < (t472.length : Int) then (some ((t472.set (bt478.2 : Int).toNat t480), t475)) else (none)) else (none))) else (if bt478.1 = 5 then ((spec_Byte.f a3).bind fun t482 => (if (l0_0.length : Int) = 0 then (none) else (some (t472, Int.tmod t482 (l0_0.length : Int))))) else (if bt478.1 = 6 then ((spec_Byte.f a3).bind fun t483 => (if (l0_0.length : Int) = 0 then (none) else (some (t472, Int.tmod t483 (l0_0.length : Int))))) else (some (t472, t475)))))) else (some (t472, t475))) = some (r1, r2) := H
 have A6 := Aside0.mk A60
 clear A60
 by_cases c7 : t477 = true
 ·subst c7
  have H1 : ((spec_Region.f a2).bind fun bt478 => (if bt478.1 = 1 then ((spec_Byte.f a3).bind fun t480 => (if 0 ≤ bt478.2 then (if bt478.2 < (t472.length : Int) then (some ((t472.set (bt478.2 : Int).toNat t480), t475)) else (none)) else (none))) else (if bt478.1 = 5 then ((spec_Byte.f a3).bind fun t482 => (if (l0_0.length : Int) = 0 then (none) else (some (t472, Int.tmod t482 (l0_0.length : Int))))) else (if bt478.1 = 6 then ((spec_Byte.f a3).bind fun t483 => (if (l0_0.length : Int) = 0 then (none) else (some (t472, Int.tmod t483 (l0_0.length : Int))))) else (some (t472, t475)))))) = some (r1, r2) := by rw [if_pos rfl] at H; exact H
  clear H
  have H := H1
  clear H1
  replace H := Option.bind_eq_some_iff.mp H
  obtain ⟨⟨t478, t479⟩, A80, H⟩ := H
  replace H : (if t478 = 1 then ((spec_Byte.f a3).bind fun t480 => (if 0 ≤ t479 then (if t479 < (t472.length : Int) then (some ((t472.set (t479 : Int).toNat t480), t475)) else (none)) else (none))) else (if t478 = 5 then ((spec_Byte.f a3).bind fun t482 => (if (l0_0.length : Int) = 0 then (none) else (some (t472, Int.tmod t482 (l0_0.length : Int))))) else (if t478 = 6 then ((spec_Byte.f a3).bind fun t483 => (if (l0_0.length : Int) = 0 then (none) else (some (t472, Int.tmod t483 (l0_0.length : Int))))) else (some (t472, t475))))) = some (r1, r2) := H
  have A8 := Aside0.mk A80
  clear A80
  by_cases c9 : t478 = 1
  ·rw [if_pos c9] at H
   have c9b0 : (t478 == 1) = true := beq_iff_eq.mpr c9
   have c9b1 : (t478 != 1) = false := bne_eq_false_iff_eq.mpr c9
   clear c9
   replace H := Option.bind_eq_some_iff.mp H
   obtain ⟨t480, A100, H⟩ := H
   replace H : (if 0 ≤ t479 then (if t479 < (t472.length : Int) then (some ((t472.set (t479 : Int).toNat t480), t475)) else (none)) else (none)) = some (r1, r2) := H
   have A10 := Aside0.mk A100
   clear A100
   by_cases c11 : 0 ≤ t479
   ·rw [if_pos c11] at H
    have c11b0 : decide (0 ≤ t479) = true := decide_eq_true c11
    clear c11
    by_cases c12 : t479 < (t472.length : Int)
    ·rw [if_pos c12] at H
     have c12b0 : decide (t479 < (t472.length : Int)) = true := decide_eq_true c12
     clear c12
     obtain ⟨y481, hy481⟩ : ∃ y_ : List Int, y_ = (t472.set (t479 : Int).toNat t480) := ⟨_, rfl⟩
     replace H : (some (y481, t475)) = some (r1, r2) := by first | (rw [hy481]; with_reducible exact H) | (have H2_ := (Option.bind_some _ _).symm.trans H; rw [hy481]; with_reducible exact H2_) | (have H2_ := (Option.bind_some _ _).symm.trans H; with_reducible exact H2_) | with_reducible exact H | (rw [hy481]; exact H) | exact H
     have Ny481 := Aside0.mk hy481
     clear hy481
     simp only [Option.some.injEq, Prod.mk.injEq] at H
     obtain ⟨rfl, rfl⟩ := H
     go_enter Try.func31, Try.ntmps31
     try go_wp2_with (first | ((with_reducible refine gate_dst (N := 4) rfl ?_); refine bx (N := 4) (cs := #[.slice A0_0 l0_0.length c0_0]) (t := 29) ?_; intro gb469 hg w14 hbox hb; have n0_ := Aside0.mk (below_step (bw HB.out) hb); have n1_ := Aside0.mk (hbox); have n2_ := Aside0.mk ((gs hg (bw HB.out))); have n3_ := Aside0.mk ((gs hg (bw HB.out))); clear HB; have HB := n0_; have BK469 := n1_; have GW469 := n2_; have GE469 := n3_; clear n0_ n1_ n2_ n3_; clear hb hbox hg) | ((with_reducible refine gate_dst (N := 5) rfl ?_); refine bx (N := 5) (cs := #[.slice A1_0 l1_0.length c1_0, .int .i64 a1_1]) (t := 32) ?_; intro gb470 hg w15 hbox hb; have n0_ := Aside0.mk (blk_below (g := gb469) (o := .cells #[.slice A0_0 l0_0.length c0_0] 29 (0, 0)) (kb BK469.out) hb); have n1_ := Aside0.mk (below_step (bw HB.out) hb); have n2_ := Aside0.mk (hbox); have n3_ := Aside0.mk ((gs hg (bw HB.out))); have n4_ := Aside0.mk ((gs hg (bw HB.out))); have n5_ := Aside0.mk ((ga hg BK469.out)); have n6_ := Aside0.mk ((gc hg BK469.out)); clear BK469; clear HB; have BK469 := n0_; have HB := n1_; have BK470 := n2_; have GW470 := n3_; have GE470 := n4_; have NB469_470 := n5_; have NB470_469 := n6_; clear n0_ n1_ n2_ n3_ n4_ n5_ n6_; clear hb hbox hg) | ((with_reducible refine gate_dst (N := 8) rfl ?_); refine bx (N := 8) (cs := #[.slice none 0 0, .int .i64 0]) (t := 32) ?_; intro gb471 hg w16 hbox hb; have n0_ := Aside0.mk (blk_below (g := gb469) (o := .cells #[.slice A0_0 l0_0.length c0_0] 29 (0, 0)) (kb BK469.out) hb); have n1_ := Aside0.mk (blk_below (g := gb470) (o := .cells #[.slice A1_0 l1_0.length c1_0, .int .i64 a1_1] 32 (0, 0)) (kb BK470.out) hb); have n2_ := Aside0.mk (below_step (bw HB.out) hb); have n3_ := Aside0.mk (hbox); have n4_ := Aside0.mk ((gs hg (bw HB.out))); have n5_ := Aside0.mk ((gs hg (bw HB.out))); have n6_ := Aside0.mk ((ga hg BK469.out)); have n7_ := Aside0.mk ((gc hg BK469.out)); have n8_ := Aside0.mk ((ga hg BK470.out)); have n9_ := Aside0.mk ((gc hg BK470.out)); clear BK469; clear BK470; clear HB; have BK469 := n0_; have BK470 := n1_; have HB := n2_; have BK471 := n3_; have GW471 := n4_; have GE471 := n5_; have NB469_471 := n6_; have NB471_469 := n7_; have NB470_471 := n8_; have NB471_470 := n9_; clear n0_ n1_ n2_ n3_ n4_ n5_ n6_ n7_ n8_ n9_; clear hb hbox hg; have hnb17 := NB470_469.out; have hnc17 := NB469_470.out; have hnb18 := NB470_471.out; have hnc18 := NB471_470.out; have hcz19_0 : w16.cell? ⟨gb470, 0, none⟩ = some (.slice A1_0 l1_0.length c1_0) := (blk_cell BK470.out 0).trans rfl; have hcz19_1 : w16.cell? ⟨gb470, 1, none⟩ = some (.int .i64 a1_1) := (blk_cell BK470.out 1).trans rfl; have hfz19_0 := blk_frozen BK470.out 0; have hfz19_1 := blk_frozen BK470.out 1) | ((with_reducible refine gate_callee (f := 78) rfl ?_); refine goesM_ (some 13) rfl rfl Try.func78 #[.agg #[.slice A1_0 l1_0.length c1_0, .int .i64 a1_1]] ?_; (with_reducible refine (spec_l6Copy.calls _ _ l1_0 a1_1 t472 t475 _ ?side1 ?side2 A5.out).mono ?_); (case side1 => exact kc (Kd.C_below HR1_0.out HB.out)); (case side2 => exact HC1_0.out); rintro e w20 ⟨v473, rfl, ho0, hb⟩; refine ⟨_, rfl, ?_⟩; have n0_ := Aside0.mk (Kd.R_lower ho0 (below_size (bw HB.out))); have n1_ := Aside0.mk (blk_below (g := gb469) (o := .cells #[.slice A0_0 l0_0.length c0_0] 29 (0, 0)) (kb BK469.out) hb); have n2_ := Aside0.mk (blk_below (g := gb470) (o := .cells #[.slice A1_0 l1_0.length c1_0, .int .i64 a1_1] 32 (0, 0)) (kb BK470.out) hb); have n3_ := Aside0.mk (blk_below (g := gb471) (o := .cells #[.slice none 0 0, .int .i64 0] 32 (0, 0)) (kb BK471.out) hb); have n4_ := Aside0.mk (below_step (bw HB.out) hb); clear BK469; clear BK470; clear BK471; clear HB; have HO474 := n0_; have BK469 := n1_; have BK470 := n2_; have BK471 := n3_; have HB := n4_; clear n0_ n1_ n2_ n3_ n4_; (try clear hb); (try clear hb2); (try clear hk); (try clear hi); (try clear ho0)) | ((with_reducible refine gate_dst (N := 9) rfl ?_); refine bx (N := 9) (cs := #[.slice none 0 0, .int .i64 0]) (t := 32) ?_; intro gb476 hg w21 hbox hb; have n0_ := Aside0.mk (Kd.R_below (kr HO474.out) hb); have n1_ := Aside0.mk (blk_below (g := gb469) (o := .cells #[.slice A0_0 l0_0.length c0_0] 29 (0, 0)) (kb BK469.out) hb); have n2_ := Aside0.mk (blk_below (g := gb470) (o := .cells #[.slice A1_0 l1_0.length c1_0, .int .i64 a1_1] 32 (0, 0)) (kb BK470.out) hb); have n3_ := Aside0.mk (blk_below (g := gb471) (o := .cells #[.slice none 0 0, .int .i64 0] 32 (0, 0)) (kb BK471.out) hb); have n4_ := Aside0.mk (below_step (bw HB.out) hb); have n5_ := Aside0.mk (hbox); have n6_ := Aside0.mk ((gs hg (bw HB.out))); have n7_ := Aside0.mk ((gs hg (bw HB.out))); have n8_ := Aside0.mk ((ga hg BK469.out)); have n9_ := Aside0.mk ((gc hg BK469.out)); have n10_ := Aside0.mk ((ga hg BK470.out)); have n11_ := Aside0.mk ((gc hg BK470.out)); have n12_ := Aside0.mk ((ga hg BK471.out)); have n13_ := Aside0.mk ((gc hg BK471.out)); clear HO474; clear BK469; clear BK470; clear BK471; clear HB; have HO474 := n0_; have BK469 := n1_; have BK470 := n2_; have BK471 := n3_; have HB := n4_; have BK476 := n5_; have GW476 := n6_; have GE476 := n7_; have NB469_476 := n8_; have NB476_469 := n9_; have NB470_476 := n10_; have NB476_470 := n11_; have NB471_476 := n12_; have NB476_471 := n13_; clear n0_ n1_ n2_ n3_ n4_ n5_ n6_ n7_ n8_ n9_ n10_ n11_ n12_ n13_; clear hb hbox hg; obtain ⟨Ao22, co22, eo22⟩ := Kd.R_slice HO474.out; subst eo22; have hnb23 := NB476_469.out; have hnc23 := NB469_476.out; have hnb24 := NB476_470.out; have hnc24 := NB470_476.out; have hnb25 := NB476_471.out; have hnc25 := NB471_476.out; have hcz26_0 : w21.cell? ⟨gb476, 0, none⟩ = some (.slice none 0 0) := (blk_cell BK476.out 0).trans rfl; have hcz26_1 : w21.cell? ⟨gb476, 1, none⟩ = some (.int .i64 0) := (blk_cell BK476.out 1).trans rfl; have hfz26_0 := blk_frozen BK476.out 0; have hfz26_1 := blk_frozen BK476.out 1; have hnb27 := NB469_471.out; have hnc27 := NB471_469.out; have hcz28_0 : w21.cell? ⟨gb469, 0, none⟩ = some (.slice A0_0 l0_0.length c0_0) := (blk_cell BK469.out 0).trans rfl; have hfz28_0 := blk_frozen BK469.out 0; have hcz29_0 : w21.cell? ⟨gb470, 0, none⟩ = some (.slice A1_0 l1_0.length c1_0) := (blk_cell BK470.out 0).trans rfl; have hcz29_1 : w21.cell? ⟨gb470, 1, none⟩ = some (.int .i64 a1_1) := (blk_cell BK470.out 1).trans rfl; have hfz29_0 := blk_frozen BK470.out 0; have hfz29_1 := blk_frozen BK470.out 1) | ((with_reducible refine gate_callee (f := 33) rfl ?_); refine goesM_ (some 16) rfl rfl Try.func33 #[.agg #[.slice A0_0 l0_0.length c0_0], .agg #[.slice A1_0 l1_0.length c1_0, .int .i64 a1_1]] ?_; (with_reducible refine (spec_MemOk.calls k _ _ l0_0 _ _ l1_0 a1_1 true _ ?side1 ?side2 ?side3 ?side4 A6.out).mono ?_); (case side1 => exact Kd.C_below HR0_0.out (bw HB.out)); (case side2 => exact HC0_0.out); (case side3 => exact Kd.C_below HR1_0.out (bw HB.out)); (case side4 => exact HC1_0.out); rintro e w30 ⟨rfl, hb⟩; refine ⟨_, rfl, ?_⟩; have n0_ := Aside0.mk (Kd.R_below (kr ((Kd.R_mono (Kd.R_far (p := ⟨gb476, 1, none⟩) (Kd.R_far (p := ⟨gb476, 0, none⟩) (Kd.R_types HO474.out BK476.out (by decide)) (fun _ hk => hk.2) (.slice Ao22 t472.length co22)) (fun _ hk => hk.2) (.int .i64 t475)) (fun _ h_ => h_.1)))) hb); have n1_ := Aside0.mk (blk_below (g := gb469) (o := .cells #[.slice A0_0 l0_0.length c0_0] 29 (0, 0)) (kf BK469.out) hb); have n2_ := Aside0.mk (blk_below (g := gb470) (o := .cells #[.slice A1_0 l1_0.length c1_0, .int .i64 a1_1] 32 (0, 0)) (kf BK470.out) hb); have n3_ := Aside0.mk (blk_below (g := gb471) (o := .cells #[.slice none 0 0, .int .i64 0] 32 (0, 0)) (kf BK471.out) hb); have n4_ := Aside0.mk (blk_below (g := gb476) (o := .cells #[.slice Ao22 t472.length co22, .int .i64 t475] 32 (0, 0)) (by (with_reducible repeat (first | refine blk_drewN ?_ _ | refine blk_drew ?_ | refine blk_alloc ?_ _)); refine blk_put (cs := #[.slice Ao22 t472.length co22, .int .i64 0]) ?_ 1 _ rfl; (with_reducible repeat (first | refine blk_drewN ?_ _ | refine blk_drew ?_ | refine blk_alloc ?_ _)); refine blk_put (cs := #[.slice none 0 0, .int .i64 0]) ?_ 0 _ rfl; (with_reducible repeat (first | refine blk_drewN ?_ _ | refine blk_drew ?_ | refine blk_alloc ?_ _)); exact BK476.out) hb); have n5_ := Aside0.mk (below_step (bw HB.out) hb); clear HO474; clear BK469; clear BK470; clear BK471; clear BK476; clear HB; have HO474 := n0_; have BK469 := n1_; have BK470 := n2_; have BK471 := n3_; have BK476 := n4_; have HB := n5_; clear n0_ n1_ n2_ n3_ n4_ n5_; (try clear hb); (try clear hb2); (try clear hk); (try clear hi)) | ((with_reducible refine gate_callee (f := 12) rfl ?_); refine goesM_ (some 21) rfl rfl Try.func12 #[.int .i64 a2] ?_; (with_reducible refine (spec_Region.calls a2 t478 t479 _ A8.out).mono ?_); rintro e w' ⟨rfl, ⟨nd, rfl⟩⟩; refine ⟨_, rfl, ?_⟩; (try (rw [drewN_self w30]; generalize hq_ : World.drewN w30 _ = w30; have n0_ : Aside0 (Kd.R (Kd.int .i64) 3 w30 w.heap.size (fun _ => True) (.slice Ao22 t472.length co22) t472) := ⟨by rw [← hq_]; exact (kr HO474.out)⟩; have n1_ : Aside0 (w30.heap[gb469]? = some (.cells #[.slice A0_0 l0_0.length c0_0] 29 (0, 0))) := ⟨by rw [← hq_]; exact (kb BK469.out)⟩; have n2_ : Aside0 (w30.heap[gb470]? = some (.cells #[.slice A1_0 l1_0.length c1_0, .int .i64 a1_1] 32 (0, 0))) := ⟨by rw [← hq_]; exact (kb BK470.out)⟩; have n3_ : Aside0 (w30.heap[gb471]? = some (.cells #[.slice none 0 0, .int .i64 0] 32 (0, 0))) := ⟨by rw [← hq_]; exact (kb BK471.out)⟩; have n4_ : Aside0 (w30.heap[gb476]? = some (.cells #[.slice Ao22 t472.length co22, .int .i64 t475] 32 (0, 0))) := ⟨by rw [← hq_]; exact (kb BK476.out)⟩; have n5_ : Aside0 (Below w.heap.size w w30) := ⟨by rw [← hq_]; exact (bw HB.out)⟩; clear HO474 BK469 BK470 BK471 BK476 HB hq_; have HO474 := n0_; have BK469 := n1_; have BK470 := n2_; have BK471 := n3_; have BK476 := n4_; have HB := n5_; clear n0_ n1_ n2_ n3_ n4_ n5_; (try (have hfz19_0 := blk_frozen BK470.out 0)); (try (have hfz19_1 := blk_frozen BK470.out 1)); (try (have hfz26_0 := blk_frozen BK476.out 0)); (try (have hfz26_1 := blk_frozen BK476.out 1)); (try (have hfz28_0 := blk_frozen BK469.out 0)); (try (have hfz29_0 := blk_frozen BK470.out 0)); (try (have hfz29_1 := blk_frozen BK470.out 1))))))
     have n0_ := Aside0.mk (Kd.R_drew HO474.out)
     have n1_ := Aside0.mk (blk_drew BK469.out)
     have n2_ := Aside0.mk (blk_drew BK470.out)
     have n3_ := Aside0.mk (blk_drew BK471.out)
     have n4_ := Aside0.mk (blk_drew BK476.out)
     have n5_ := Aside0.mk (below_drew1 HB.out)
     clear HO474; clear BK469; clear BK470; clear BK471; clear BK476; clear HB; have HO474 := n0_; have BK469 := n1_; have BK470 := n2_; have BK471 := n3_; have BK476 := n4_; have HB := n5_; clear n0_ n1_ n2_ n3_ n4_ n5_
     refine start_ (n := 7) (S := fun w' => w'.cell? ⟨gb476, 0, none⟩ = some (.slice Ao22 t472.length co22) ∧ w'.cell? ⟨gb476, 1, none⟩ = some (.int .i64 t475)) (ds := [6]) #[false, false, false, false, false, false, false] (by kernel_rfl) rfl rfl ⟨(blk_cell BK476.out 0).trans rfl, (blk_cell BK476.out 1).trans rfl⟩ (fun hHeld => ?_)
     generalize w30.drew = w31 at HO474 BK469 BK470 BK471 BK476 HB hHeld ⊢
     refine pure_ (i := 0) (N := some 27) (v := ?_) (a' := ?_) #[true, false, false, false, false, false, false] rfl rfl (by kernel_rfl) (fun _ _ _ h => h) (Or.inl ⟨by rfl, ?_⟩) ?_ ?_
     rotate_left
     ·intro w'
      go_simp
      with_reducible rfl
     rotate_left
     ·simp only [Act.put, List.setIfInBounds_toArray, List.set_cons_zero, List.set_cons_succ, i64_w, i32_w]
      rfl
     refine pure_ (i := 2) (N := some 29) (v := ?_) (a' := ?_) #[true, false, true, false, false, false, false] rfl rfl (by kernel_rfl) (fun _ _ _ h => h) (Or.inl ⟨by rfl, ?_⟩) ?_ ?_
     rotate_left
     ·intro w'
      go_simp
      with_reducible rfl
     rotate_left
     ·simp only [Act.put, List.setIfInBounds_toArray, List.set_cons_zero, List.set_cons_succ, i64_w, i32_w]
      rfl
     refine pure_ (i := 3) (N := some 30) (v := ?_) (a' := ?_) #[true, false, true, true, false, false, false] rfl rfl (by kernel_rfl) (fun _ _ _ h => h) (Or.inl ⟨by rfl, ?_⟩) ?_ ?_
     rotate_left
     ·intro w'
      go_simp
      with_reducible rfl
     rotate_left
     ·simp only [Act.put, List.setIfInBounds_toArray, List.set_cons_zero, List.set_cons_succ, i64_w, i32_w]
      rfl
     refine take_ (i := 1) (N := some 28) (v := ?_) (a' := ?_) #[true, true, true, true, false, false, false] rfl rfl (by kernel_rfl) (fun _ _ _ h => h) (Or.inl ⟨by rfl, ?_⟩) hHeld ?_ ?_
     rotate_left
     ·rintro w' ⟨s0, s1⟩
      go_simp
      with_reducible rfl
     rotate_left
     ·simp only [Act.put, List.setIfInBounds_toArray, List.set_cons_zero, List.set_cons_succ, i64_w, i32_w]
      rfl
     refine one_ (i := 4) (N := some 31) #[true, true, true, true, true, false, false] rfl rfl (by kernel_rfl) (by decide) (fun K hK => ?_)
     refine goes_ Try.func71 (by kernel_rfl) rfl #[.int .i64 a3] (by rfl) rfl rfl (by (try simp only [List.map_toArray, List.map_cons, List.map_nil]); first | done | rfl | (simp only [List.length_drop, List.length_take]; rfl)) ?_
     with_reducible refine (spec_Byte.calls a3 t480 _ A10.out).mono ?_
     rintro e w' ⟨rfl, ⟨nd, rfl⟩⟩
     refine ⟨_, rfl, ?_⟩
     have n0_ := Aside0.mk (Kd.R_drewN HO474.out nd)
     have n1_ := Aside0.mk (blk_drewN BK469.out nd)
     have n2_ := Aside0.mk (blk_drewN BK470.out nd)
     have n3_ := Aside0.mk (blk_drewN BK471.out nd)
     have n4_ := Aside0.mk (blk_drewN BK476.out nd)
     have n5_ := Aside0.mk (pw_below_drewN HB.out nd)
     clear HO474; clear BK469; clear BK470; clear BK471; clear BK476; clear HB; have HO474 := n0_; have BK469 := n1_; have BK470 := n2_; have BK471 := n3_; have BK476 := n4_; have HB := n5_; clear n0_ n1_ n2_ n3_ n4_ n5_
     generalize w31.drewN nd = w31 at HO474 BK469 BK470 BK471 BK476 HB ⊢
     have p13 : 0 ≤ (t479 : Int) := dt
     have q13 : (t479 : Int) < ((t472.length : Int) : Int) := dt
     obtain ⟨go13, co13, eo13, gb13, gl13, cl13, HG13⟩ := Kd.R_form HO474.out (by omega)
     (first | cases eo13 | (injection eo13 with ea_ en_ ec_; (first | subst ea_ | (injection ea_ with ea_; subst ea_)); subst ec_; clear en_))
     have GB13 := Aside0.mk gb13
     have GG13 := Aside0.mk HG13
     clear gb13 gl13 HG13
     obtain ⟨hx13_0, hf13_0⟩ := Kd.R_celln 0 HO474.out (t479 : Int) p13 q13
     replace p13 := eq_true p13
     replace q13 := eq_true q13
     have HP32 := Kd.R_putn HO474.out (t479 : Int) t480
     rw [← Ny481.out] at HP32
     have HQ32 := Aside0.mk HP32
     clear HP32
     refine hK.out _ _ ⟨(blk_cell BK476.out 0).trans rfl, (blk_cell BK476.out 1).trans rfl⟩ (fun hHeld => ?_)
     clear hK K
     refine norm_ (a' := ?_) ?_ ?_
     rotate_left
     ·show Act.put _ (some 31) _ = _
      simp only [Act.put, List.setIfInBounds_toArray, List.set_cons_zero, List.set_cons_succ, i64_w, i32_w]
      rfl
     refine pure_ (i := 5) (N := some 32) (v := ?_) (a' := ?_) #[true, true, true, true, true, true, false] rfl rfl (by kernel_rfl) (fun _ _ _ h => h) (Or.inl ⟨by rfl, ?_⟩) ?_ ?_
     rotate_left
     ·intro w'
      go_simp
      with_reducible rfl
     rotate_left
     ·simp only [Act.put, List.setIfInBounds_toArray, List.set_cons_zero, List.set_cons_succ, i64_w, i32_w]
      rfl
     refine last_ (i := 6) (N := none) #[true, true, true, true, true, true, true] rfl rfl (by kernel_rfl) (by decide) (fun K hK => ?_)
     refine skip_ (w1 := ?_) (by rfl) rfl ?_ ?_
     rotate_left
     ·go_simp
      rfl
     refine hK.out _ _ ?_
     clear hK K
     refine done_ (by kernel_rfl) ?_
     have n0_ : Aside0 (Kd.R (Kd.int .i64) 3 (w31.setCell ⟨go13, (t479 : Int).toNat, none⟩ (.int .i64 t480)) w.heap.size (fun _ => True) (.slice (some ⟨go13, 0, none⟩) t472.length co22) y481) := ⟨kr HQ32.out⟩
     have n1_ : Aside0 ((w31.setCell ⟨go13, (t479 : Int).toNat, none⟩ (.int .i64 t480)).heap[gb469]? = some (.cells #[.slice A0_0 l0_0.length c0_0] 29 (0, 0))) := ⟨by (with_reducible repeat (first | refine blk_drewN ?_ _ | refine blk_drew ?_ | refine blk_alloc ?_ _)); refine blk_far ?_ (by have h_ := Kd.R_ne HO474.out BK469.out (by decide); intro e_; exact h_ (by rw [e_]; rfl)) _; (with_reducible repeat (first | refine blk_drewN ?_ _ | refine blk_drew ?_ | refine blk_alloc ?_ _)); exact BK469.out⟩
     have n2_ : Aside0 ((w31.setCell ⟨go13, (t479 : Int).toNat, none⟩ (.int .i64 t480)).heap[gb470]? = some (.cells #[.slice A1_0 l1_0.length c1_0, .int .i64 a1_1] 32 (0, 0))) := ⟨by (with_reducible repeat (first | refine blk_drewN ?_ _ | refine blk_drew ?_ | refine blk_alloc ?_ _)); refine blk_far ?_ (by have h_ := Kd.R_ne HO474.out BK470.out (by decide); intro e_; exact h_ (by rw [e_]; rfl)) _; (with_reducible repeat (first | refine blk_drewN ?_ _ | refine blk_drew ?_ | refine blk_alloc ?_ _)); exact BK470.out⟩
     have n3_ : Aside0 ((w31.setCell ⟨go13, (t479 : Int).toNat, none⟩ (.int .i64 t480)).heap[gb471]? = some (.cells #[.slice none 0 0, .int .i64 0] 32 (0, 0))) := ⟨by (with_reducible repeat (first | refine blk_drewN ?_ _ | refine blk_drew ?_ | refine blk_alloc ?_ _)); refine blk_far ?_ (by have h_ := Kd.R_ne HO474.out BK471.out (by decide); intro e_; exact h_ (by rw [e_]; rfl)) _; (with_reducible repeat (first | refine blk_drewN ?_ _ | refine blk_drew ?_ | refine blk_alloc ?_ _)); exact BK471.out⟩
     have n4_ : Aside0 ((w31.setCell ⟨go13, (t479 : Int).toNat, none⟩ (.int .i64 t480)).heap[gb476]? = some (.cells #[.slice (some ⟨go13, 0, none⟩) t472.length co22, .int .i64 t475] 32 (0, 0))) := ⟨by (with_reducible repeat (first | refine blk_drewN ?_ _ | refine blk_drew ?_ | refine blk_alloc ?_ _)); refine blk_far ?_ (by have h_ := Kd.R_ne HO474.out BK476.out (by decide); intro e_; exact h_ (by rw [e_]; rfl)) _; (with_reducible repeat (first | refine blk_drewN ?_ _ | refine blk_drew ?_ | refine blk_alloc ?_ _)); exact BK476.out⟩
     have n5_ : Aside0 (Below w.heap.size w (w31.setCell ⟨go13, (t479 : Int).toNat, none⟩ (.int .i64 t480))) := ⟨by repeat (first | (with_reducible first | exact HB.out | apply below_alloc | apply pw_below_drewN | apply below_drew1 | refine below_set ?_ GB13.out | refine below_set ?_ GE469.out | refine below_set ?_ GE470.out | refine below_set ?_ GE471.out | refine below_set ?_ GE476.out) | exact HB.out)⟩
     (try clear HO474); (try clear BK469); (try clear BK470); (try clear BK471); (try clear BK476); (try clear HB)
     generalize (w31.setCell ⟨go13, (t479 : Int).toNat, none⟩ (.int .i64 t480)) = w33 at n0_ n1_ n2_ n3_ n4_ n5_ ⊢
     have HO474 := n0_; have BK469 := n1_; have BK470 := n2_; have BK471 := n3_; have BK476 := n4_; have HB := n5_; clear n0_ n1_ n2_ n3_ n4_ n5_
     have hcz34_0 : w33.cell? ⟨gb476, 0, none⟩ = some (.slice (some ⟨go13, 0, none⟩) t472.length co22) := (blk_cell BK476.out 0).trans rfl
     have hcz34_1 : w33.cell? ⟨gb476, 1, none⟩ = some (.int .i64 t475) := (blk_cell BK476.out 1).trans rfl
     have hfz34_0 := blk_frozen BK476.out 0
     have hfz34_1 := blk_frozen BK476.out 1
     have hcz35_0 : w33.cell? ⟨gb471, 0, none⟩ = some (.slice none 0 0) := (blk_cell BK471.out 0).trans rfl
     have hcz35_1 : w33.cell? ⟨gb471, 1, none⟩ = some (.int .i64 0) := (blk_cell BK471.out 1).trans rfl
     have hfz35_0 := blk_frozen BK471.out 0
     have hfz35_1 := blk_frozen BK471.out 1
     try go_wp2
     refine bodyPost_ret (results_cell_row rfl _ _ gb471 32 #[.slice (some ⟨go13, 0, none⟩) t472.length co22, .int .i64 t475] (0, 0) _ rfl (by (with_reducible repeat (first | refine blk_drewN ?_ _ | refine blk_drew ?_ | refine blk_alloc ?_ _)); refine blk_put (cs := #[.slice (some ⟨go13, 0, none⟩) t472.length co22, .int .i64 0]) ?_ 1 _ rfl; (with_reducible repeat (first | refine blk_drewN ?_ _ | refine blk_drew ?_ | refine blk_alloc ?_ _)); refine blk_put (cs := #[.slice none 0 0, .int .i64 0]) ?_ 0 _ rfl; (with_reducible repeat (first | refine blk_drewN ?_ _ | refine blk_drew ?_ | refine blk_alloc ?_ _)); exact BK471.out) Try.underlying32 rfl (by kernel_rfl)) rfl ?_
     exact ⟨_, rt, kr (Kd.R_mono (Kd.R_far (p := ⟨gb471, 1, none⟩) (Kd.R_far (p := ⟨gb471, 0, none⟩) (Kd.R_types HO474.out BK471.out (by decide)) (fun _ hk => hk.2) (.slice (some ⟨go13, 0, none⟩) t472.length co22)) (fun _ hk => hk.2) (.int .i64 t475)) (fun _ hk => trivial)), bw HB.out⟩
    ·rw [if_neg c12] at H
     exact absurd H (by simp)
   ·rw [if_neg c11] at H
    exact absurd H (by simp)
  ·rw [if_neg c9] at H
   have c9b0 : (t478 == 1) = false := beq_eq_false_iff_ne.mpr c9
   have c9b1 : (t478 != 1) = true := bne_iff_ne.mpr c9
   by_cases c36 : t478 = 5
   ·rw [if_pos c36] at H
    have c36b0 : (t478 == 5) = true := beq_iff_eq.mpr c36
    have c36b1 : (t478 != 5) = false := bne_eq_false_iff_eq.mpr c36
    clear c36
    replace H := Option.bind_eq_some_iff.mp H
    obtain ⟨t482, A370, H⟩ := H
    replace H : (if (l0_0.length : Int) = 0 then (none) else (some (t472, Int.tmod t482 (l0_0.length : Int)))) = some (r1, r2) := H
    have A37 := Aside0.mk A370
    clear A370
    by_cases c38 : (l0_0.length : Int) = 0
    ·rw [if_pos c38] at H
     exact absurd H (by simp)
    ·rw [if_neg c38] at H
     have c38b0 : ((l0_0.length : Int) == 0) = false := beq_eq_false_iff_ne.mpr c38
     have c38b1 : ((l0_0.length : Int) != 0) = true := bne_iff_ne.mpr c38
     have c38b2 : ¬ (l0_0 = []) := fun h_ => c38 (by rw [h_]; rfl)
     simp only [Option.some.injEq, Prod.mk.injEq] at H
     obtain ⟨rfl, rfl⟩ := H
     go_enter Try.func31, Try.ntmps31
     try go_wp2_with (first | ((with_reducible refine gate_dst (N := 4) rfl ?_); refine bx (N := 4) (cs := #[.slice A0_0 l0_0.length c0_0]) (t := 29) ?_; intro gb469 hg w39 hbox hb; have n0_ := Aside0.mk (below_step (bw HB.out) hb); have n1_ := Aside0.mk (hbox); have n2_ := Aside0.mk ((gs hg (bw HB.out))); have n3_ := Aside0.mk ((gs hg (bw HB.out))); clear HB; have HB := n0_; have BK469 := n1_; have GW469 := n2_; have GE469 := n3_; clear n0_ n1_ n2_ n3_; clear hb hbox hg) | ((with_reducible refine gate_dst (N := 5) rfl ?_); refine bx (N := 5) (cs := #[.slice A1_0 l1_0.length c1_0, .int .i64 a1_1]) (t := 32) ?_; intro gb470 hg w40 hbox hb; have n0_ := Aside0.mk (blk_below (g := gb469) (o := .cells #[.slice A0_0 l0_0.length c0_0] 29 (0, 0)) (kb BK469.out) hb); have n1_ := Aside0.mk (below_step (bw HB.out) hb); have n2_ := Aside0.mk (hbox); have n3_ := Aside0.mk ((gs hg (bw HB.out))); have n4_ := Aside0.mk ((gs hg (bw HB.out))); have n5_ := Aside0.mk ((ga hg BK469.out)); have n6_ := Aside0.mk ((gc hg BK469.out)); clear BK469; clear HB; have BK469 := n0_; have HB := n1_; have BK470 := n2_; have GW470 := n3_; have GE470 := n4_; have NB469_470 := n5_; have NB470_469 := n6_; clear n0_ n1_ n2_ n3_ n4_ n5_ n6_; clear hb hbox hg) | ((with_reducible refine gate_dst (N := 8) rfl ?_); refine bx (N := 8) (cs := #[.slice none 0 0, .int .i64 0]) (t := 32) ?_; intro gb471 hg w41 hbox hb; have n0_ := Aside0.mk (blk_below (g := gb469) (o := .cells #[.slice A0_0 l0_0.length c0_0] 29 (0, 0)) (kb BK469.out) hb); have n1_ := Aside0.mk (blk_below (g := gb470) (o := .cells #[.slice A1_0 l1_0.length c1_0, .int .i64 a1_1] 32 (0, 0)) (kb BK470.out) hb); have n2_ := Aside0.mk (below_step (bw HB.out) hb); have n3_ := Aside0.mk (hbox); have n4_ := Aside0.mk ((gs hg (bw HB.out))); have n5_ := Aside0.mk ((gs hg (bw HB.out))); have n6_ := Aside0.mk ((ga hg BK469.out)); have n7_ := Aside0.mk ((gc hg BK469.out)); have n8_ := Aside0.mk ((ga hg BK470.out)); have n9_ := Aside0.mk ((gc hg BK470.out)); clear BK469; clear BK470; clear HB; have BK469 := n0_; have BK470 := n1_; have HB := n2_; have BK471 := n3_; have GW471 := n4_; have GE471 := n5_; have NB469_471 := n6_; have NB471_469 := n7_; have NB470_471 := n8_; have NB471_470 := n9_; clear n0_ n1_ n2_ n3_ n4_ n5_ n6_ n7_ n8_ n9_; clear hb hbox hg; have hnb42 := NB470_469.out; have hnc42 := NB469_470.out; have hnb43 := NB470_471.out; have hnc43 := NB471_470.out; have hcz44_0 : w41.cell? ⟨gb470, 0, none⟩ = some (.slice A1_0 l1_0.length c1_0) := (blk_cell BK470.out 0).trans rfl; have hcz44_1 : w41.cell? ⟨gb470, 1, none⟩ = some (.int .i64 a1_1) := (blk_cell BK470.out 1).trans rfl; have hfz44_0 := blk_frozen BK470.out 0; have hfz44_1 := blk_frozen BK470.out 1) | ((with_reducible refine gate_callee (f := 78) rfl ?_); refine goesM_ (some 13) rfl rfl Try.func78 #[.agg #[.slice A1_0 l1_0.length c1_0, .int .i64 a1_1]] ?_; (with_reducible refine (spec_l6Copy.calls _ _ l1_0 a1_1 t472 t475 _ ?side1 ?side2 A5.out).mono ?_); (case side1 => exact kc (Kd.C_below HR1_0.out HB.out)); (case side2 => exact HC1_0.out); rintro e w45 ⟨v473, rfl, ho0, hb⟩; refine ⟨_, rfl, ?_⟩; have n0_ := Aside0.mk (Kd.R_lower ho0 (below_size (bw HB.out))); have n1_ := Aside0.mk (blk_below (g := gb469) (o := .cells #[.slice A0_0 l0_0.length c0_0] 29 (0, 0)) (kb BK469.out) hb); have n2_ := Aside0.mk (blk_below (g := gb470) (o := .cells #[.slice A1_0 l1_0.length c1_0, .int .i64 a1_1] 32 (0, 0)) (kb BK470.out) hb); have n3_ := Aside0.mk (blk_below (g := gb471) (o := .cells #[.slice none 0 0, .int .i64 0] 32 (0, 0)) (kb BK471.out) hb); have n4_ := Aside0.mk (below_step (bw HB.out) hb); clear BK469; clear BK470; clear BK471; clear HB; have HO474 := n0_; have BK469 := n1_; have BK470 := n2_; have BK471 := n3_; have HB := n4_; clear n0_ n1_ n2_ n3_ n4_; (try clear hb); (try clear hb2); (try clear hk); (try clear hi); (try clear ho0)) | ((with_reducible refine gate_dst (N := 9) rfl ?_); refine bx (N := 9) (cs := #[.slice none 0 0, .int .i64 0]) (t := 32) ?_; intro gb476 hg w46 hbox hb; have n0_ := Aside0.mk (Kd.R_below (kr HO474.out) hb); have n1_ := Aside0.mk (blk_below (g := gb469) (o := .cells #[.slice A0_0 l0_0.length c0_0] 29 (0, 0)) (kb BK469.out) hb); have n2_ := Aside0.mk (blk_below (g := gb470) (o := .cells #[.slice A1_0 l1_0.length c1_0, .int .i64 a1_1] 32 (0, 0)) (kb BK470.out) hb); have n3_ := Aside0.mk (blk_below (g := gb471) (o := .cells #[.slice none 0 0, .int .i64 0] 32 (0, 0)) (kb BK471.out) hb); have n4_ := Aside0.mk (below_step (bw HB.out) hb); have n5_ := Aside0.mk (hbox); have n6_ := Aside0.mk ((gs hg (bw HB.out))); have n7_ := Aside0.mk ((gs hg (bw HB.out))); have n8_ := Aside0.mk ((ga hg BK469.out)); have n9_ := Aside0.mk ((gc hg BK469.out)); have n10_ := Aside0.mk ((ga hg BK470.out)); have n11_ := Aside0.mk ((gc hg BK470.out)); have n12_ := Aside0.mk ((ga hg BK471.out)); have n13_ := Aside0.mk ((gc hg BK471.out)); clear HO474; clear BK469; clear BK470; clear BK471; clear HB; have HO474 := n0_; have BK469 := n1_; have BK470 := n2_; have BK471 := n3_; have HB := n4_; have BK476 := n5_; have GW476 := n6_; have GE476 := n7_; have NB469_476 := n8_; have NB476_469 := n9_; have NB470_476 := n10_; have NB476_470 := n11_; have NB471_476 := n12_; have NB476_471 := n13_; clear n0_ n1_ n2_ n3_ n4_ n5_ n6_ n7_ n8_ n9_ n10_ n11_ n12_ n13_; clear hb hbox hg; obtain ⟨Ao47, co47, eo47⟩ := Kd.R_slice HO474.out; subst eo47; have hnb48 := NB476_469.out; have hnc48 := NB469_476.out; have hnb49 := NB476_470.out; have hnc49 := NB470_476.out; have hnb50 := NB476_471.out; have hnc50 := NB471_476.out; have hcz51_0 : w46.cell? ⟨gb476, 0, none⟩ = some (.slice none 0 0) := (blk_cell BK476.out 0).trans rfl; have hcz51_1 : w46.cell? ⟨gb476, 1, none⟩ = some (.int .i64 0) := (blk_cell BK476.out 1).trans rfl; have hfz51_0 := blk_frozen BK476.out 0; have hfz51_1 := blk_frozen BK476.out 1; have hnb52 := NB469_471.out; have hnc52 := NB471_469.out; have hcz53_0 : w46.cell? ⟨gb469, 0, none⟩ = some (.slice A0_0 l0_0.length c0_0) := (blk_cell BK469.out 0).trans rfl; have hfz53_0 := blk_frozen BK469.out 0; have hcz54_0 : w46.cell? ⟨gb470, 0, none⟩ = some (.slice A1_0 l1_0.length c1_0) := (blk_cell BK470.out 0).trans rfl; have hcz54_1 : w46.cell? ⟨gb470, 1, none⟩ = some (.int .i64 a1_1) := (blk_cell BK470.out 1).trans rfl; have hfz54_0 := blk_frozen BK470.out 0; have hfz54_1 := blk_frozen BK470.out 1) | ((with_reducible refine gate_callee (f := 33) rfl ?_); refine goesM_ (some 16) rfl rfl Try.func33 #[.agg #[.slice A0_0 l0_0.length c0_0], .agg #[.slice A1_0 l1_0.length c1_0, .int .i64 a1_1]] ?_; (with_reducible refine (spec_MemOk.calls k _ _ l0_0 _ _ l1_0 a1_1 true _ ?side1 ?side2 ?side3 ?side4 A6.out).mono ?_); (case side1 => exact Kd.C_below HR0_0.out (bw HB.out)); (case side2 => exact HC0_0.out); (case side3 => exact Kd.C_below HR1_0.out (bw HB.out)); (case side4 => exact HC1_0.out); rintro e w55 ⟨rfl, hb⟩; refine ⟨_, rfl, ?_⟩; have n0_ := Aside0.mk (Kd.R_below (kr ((Kd.R_mono (Kd.R_far (p := ⟨gb476, 1, none⟩) (Kd.R_far (p := ⟨gb476, 0, none⟩) (Kd.R_types HO474.out BK476.out (by decide)) (fun _ hk => hk.2) (.slice Ao47 t472.length co47)) (fun _ hk => hk.2) (.int .i64 t475)) (fun _ h_ => h_.1)))) hb); have n1_ := Aside0.mk (blk_below (g := gb469) (o := .cells #[.slice A0_0 l0_0.length c0_0] 29 (0, 0)) (kf BK469.out) hb); have n2_ := Aside0.mk (blk_below (g := gb470) (o := .cells #[.slice A1_0 l1_0.length c1_0, .int .i64 a1_1] 32 (0, 0)) (kf BK470.out) hb); have n3_ := Aside0.mk (blk_below (g := gb471) (o := .cells #[.slice none 0 0, .int .i64 0] 32 (0, 0)) (kf BK471.out) hb); have n4_ := Aside0.mk (blk_below (g := gb476) (o := .cells #[.slice Ao47 t472.length co47, .int .i64 t475] 32 (0, 0)) (by (with_reducible repeat (first | refine blk_drewN ?_ _ | refine blk_drew ?_ | refine blk_alloc ?_ _)); refine blk_put (cs := #[.slice Ao47 t472.length co47, .int .i64 0]) ?_ 1 _ rfl; (with_reducible repeat (first | refine blk_drewN ?_ _ | refine blk_drew ?_ | refine blk_alloc ?_ _)); refine blk_put (cs := #[.slice none 0 0, .int .i64 0]) ?_ 0 _ rfl; (with_reducible repeat (first | refine blk_drewN ?_ _ | refine blk_drew ?_ | refine blk_alloc ?_ _)); exact BK476.out) hb); have n5_ := Aside0.mk (below_step (bw HB.out) hb); clear HO474; clear BK469; clear BK470; clear BK471; clear BK476; clear HB; have HO474 := n0_; have BK469 := n1_; have BK470 := n2_; have BK471 := n3_; have BK476 := n4_; have HB := n5_; clear n0_ n1_ n2_ n3_ n4_ n5_; (try clear hb); (try clear hb2); (try clear hk); (try clear hi)) | ((with_reducible refine gate_callee (f := 12) rfl ?_); refine goesM_ (some 21) rfl rfl Try.func12 #[.int .i64 a2] ?_; (with_reducible refine (spec_Region.calls a2 t478 t479 _ A8.out).mono ?_); rintro e w' ⟨rfl, ⟨nd, rfl⟩⟩; refine ⟨_, rfl, ?_⟩; (try (rw [drewN_self w55]; generalize hq_ : World.drewN w55 _ = w55; have n0_ : Aside0 (Kd.R (Kd.int .i64) 3 w55 w.heap.size (fun _ => True) (.slice Ao47 t472.length co47) t472) := ⟨by rw [← hq_]; exact (kr HO474.out)⟩; have n1_ : Aside0 (w55.heap[gb469]? = some (.cells #[.slice A0_0 l0_0.length c0_0] 29 (0, 0))) := ⟨by rw [← hq_]; exact (kb BK469.out)⟩; have n2_ : Aside0 (w55.heap[gb470]? = some (.cells #[.slice A1_0 l1_0.length c1_0, .int .i64 a1_1] 32 (0, 0))) := ⟨by rw [← hq_]; exact (kb BK470.out)⟩; have n3_ : Aside0 (w55.heap[gb471]? = some (.cells #[.slice none 0 0, .int .i64 0] 32 (0, 0))) := ⟨by rw [← hq_]; exact (kb BK471.out)⟩; have n4_ : Aside0 (w55.heap[gb476]? = some (.cells #[.slice Ao47 t472.length co47, .int .i64 t475] 32 (0, 0))) := ⟨by rw [← hq_]; exact (kb BK476.out)⟩; have n5_ : Aside0 (Below w.heap.size w w55) := ⟨by rw [← hq_]; exact (bw HB.out)⟩; clear HO474 BK469 BK470 BK471 BK476 HB hq_; have HO474 := n0_; have BK469 := n1_; have BK470 := n2_; have BK471 := n3_; have BK476 := n4_; have HB := n5_; clear n0_ n1_ n2_ n3_ n4_ n5_; (try (have hfz44_0 := blk_frozen BK470.out 0)); (try (have hfz44_1 := blk_frozen BK470.out 1)); (try (have hfz51_0 := blk_frozen BK476.out 0)); (try (have hfz51_1 := blk_frozen BK476.out 1)); (try (have hfz53_0 := blk_frozen BK469.out 0)); (try (have hfz54_0 := blk_frozen BK470.out 0)); (try (have hfz54_1 := blk_frozen BK470.out 1))))))
     have n0_ := Aside0.mk (Kd.R_drew HO474.out)
     have n1_ := Aside0.mk (blk_drew BK469.out)
     have n2_ := Aside0.mk (blk_drew BK470.out)
     have n3_ := Aside0.mk (blk_drew BK471.out)
     have n4_ := Aside0.mk (blk_drew BK476.out)
     have n5_ := Aside0.mk (below_drew1 HB.out)
     clear HO474; clear BK469; clear BK470; clear BK471; clear BK476; clear HB; have HO474 := n0_; have BK469 := n1_; have BK470 := n2_; have BK471 := n3_; have BK476 := n4_; have HB := n5_; clear n0_ n1_ n2_ n3_ n4_ n5_
     refine start_ (n := 8) (S := fun w' => w'.cell? ⟨gb469, 0, none⟩ = some (.slice A0_0 l0_0.length c0_0)) (ds := []) #[false, false, false, false, false, false, false, false] (by kernel_rfl) rfl rfl ((blk_cell BK469.out 0).trans rfl) (fun hHeld => ?_); refine with_tabW spec_Poke.tab10 spec_Poke.bits10 (fun HT_ HW_ => ?_)
     generalize w55.drew = w56 at HO474 BK469 BK470 BK471 BK476 HB hHeld ⊢
     refine pure_ (i := 0) (N := some 36) (v := ?_) (a' := ?_) #[true, false, false, false, false, false, false, false] rfl rfl (any_of HT_.out (by kernel_rfl)) (fun _ _ _ h => h) (Or.inl ⟨by rfl, ?_⟩) ?_ ?_
     rotate_left
     ·intro w'
      go_simp
      with_reducible rfl
     rotate_left
     ·simp only [Act.put, List.setIfInBounds_toArray, List.set_cons_zero, List.set_cons_succ, i64_w, i32_w]
      rfl
     refine pure_ (i := 2) (N := some 38) (v := ?_) (a' := ?_) #[true, false, true, false, false, false, false, false] rfl rfl (any_of HT_.out (by kernel_rfl)) (fun _ _ _ h => h) (Or.inl ⟨by rfl, ?_⟩) ?_ ?_
     rotate_left
     ·intro w'
      go_simp
      with_reducible rfl
     rotate_left
     ·simp only [Act.put, List.setIfInBounds_toArray, List.set_cons_zero, List.set_cons_succ, i64_w, i32_w]
      rfl
     refine take_ (i := 3) (N := some 39) (v := ?_) (a' := ?_) #[true, false, true, true, false, false, false, false] rfl rfl (take_ofW HT_.out HW_.out (by kernel_rfl)) (fun _ _ _ h => h) (Or.inl ⟨by rfl, ?_⟩) hHeld ?_ ?_
     rotate_left
     ·intro w' s0
      go_simp
      with_reducible rfl
     rotate_left
     ·simp only [Act.put, List.setIfInBounds_toArray, List.set_cons_zero, List.set_cons_succ, i64_w, i32_w]
      rfl
     refine pure_ (i := 4) (N := some 40) (v := ?_) (a' := ?_) #[true, false, true, true, true, false, false, false] rfl rfl (any_of HT_.out (by kernel_rfl)) (fun _ _ _ h => h) (Or.inl ⟨by rfl, ?_⟩) ?_ ?_
     rotate_left
     ·intro w'
      go_simp
      with_reducible rfl
     rotate_left
     ·simp only [Act.put, List.setIfInBounds_toArray, List.set_cons_zero, List.set_cons_succ, i64_w, i32_w]
      rfl
     refine one_ (i := 1) (N := some 37) #[true, true, true, true, true, false, false, false] rfl rfl (one_of HT_.out (by kernel_rfl)) (by decide) (fun K hK => ?_)
     refine goes_ Try.func71 (by kernel_rfl) rfl #[.int .i64 a3] (by rfl) rfl rfl (by (try simp only [List.map_toArray, List.map_cons, List.map_nil]); first | done | rfl | (simp only [List.length_drop, List.length_take]; rfl)) ?_
     with_reducible refine (spec_Byte.calls a3 t482 _ A37.out).mono ?_
     rintro e w' ⟨rfl, ⟨nd, rfl⟩⟩
     refine ⟨_, rfl, ?_⟩
     have n0_ := Aside0.mk (Kd.R_drewN HO474.out nd)
     have n1_ := Aside0.mk (blk_drewN BK469.out nd)
     have n2_ := Aside0.mk (blk_drewN BK470.out nd)
     have n3_ := Aside0.mk (blk_drewN BK471.out nd)
     have n4_ := Aside0.mk (blk_drewN BK476.out nd)
     have n5_ := Aside0.mk (pw_below_drewN HB.out nd)
     clear HO474; clear BK469; clear BK470; clear BK471; clear BK476; clear HB; have HO474 := n0_; have BK469 := n1_; have BK470 := n2_; have BK471 := n3_; have BK476 := n4_; have HB := n5_; clear n0_ n1_ n2_ n3_ n4_ n5_
     generalize w56.drewN nd = w56 at HO474 BK469 BK470 BK471 BK476 HB ⊢
     refine hK.out _ _ ((blk_cell BK469.out 0).trans rfl) (fun hHeld => ?_)
     clear hK K
     refine norm_ (a' := ?_) ?_ ?_
     rotate_left
     ·show Act.put _ (some 37) _ = _
      simp only [Act.put, List.setIfInBounds_toArray, List.set_cons_zero, List.set_cons_succ, i64_w, i32_w]
      rfl
     refine pure_ (i := 5) (N := some 41) (v := ?_) (a' := ?_) #[true, true, true, true, true, true, false, false] rfl rfl (any_of HT_.out (by kernel_rfl)) (fun _ _ _ h => h) (Or.inl ⟨by rfl, ?_⟩) ?_ ?_
     rotate_left
     ·intro w'
      go_simp
      with_reducible rfl
     rotate_left
     ·simp only [Act.put, List.setIfInBounds_toArray, List.set_cons_zero, List.set_cons_succ, i64_w, i32_w]
      rfl
     refine pure_ (i := 6) (N := some 42) (v := ?_) (a' := ?_) #[true, true, true, true, true, true, true, false] rfl rfl (any_of HT_.out (by kernel_rfl)) (fun _ _ _ h => h) (Or.inl ⟨by rfl, ?_⟩) ?_ ?_
     rotate_left
     ·intro w'
      go_simp
      with_reducible rfl
     rotate_left
     ·simp only [Act.put, List.setIfInBounds_toArray, List.set_cons_zero, List.set_cons_succ, i64_w, i32_w]
      rfl
     refine one_ (i := 7) (N := none) #[true, true, true, true, true, true, true, true] rfl rfl (one_of HT_.out (by kernel_rfl)) (by decide) (fun K hK => ?_)
     have hs57 : w56.cell? ⟨gb476, 1, none⟩ = some (.int .i64 t475) := (blk_cell BK476.out 1).trans rfl
     have hfs57 := blk_frozen BK476.out 1
     have hns57_0 := NB469_476.out
     have hns57_1 := NB470_476.out
     have hns57_2 := NB471_476.out
     have hms57_0 := NB476_469.out
     have hms57_1 := NB476_470.out
     have hms57_2 := NB476_471.out
     refine skip_ (w1 := ?_) (by rfl) rfl ?_ ?_
     rotate_left
     ·go_simp
      rfl
     refine hK.out _ _ (((cell_far (p := ⟨gb476, _, none⟩) NB469_476.out _).trans (hHeld))) (fun hHeld => ?_)
     clear hK K
     refine done_ (done_of HT_.out (by kernel_rfl)) ?_
     have hcz58_0 : w56.cell? ⟨gb476, 0, none⟩ = some (.slice Ao47 t472.length co47) := (blk_cell BK476.out 0).trans rfl
     have hcz58_1 : w56.cell? ⟨gb476, 1, none⟩ = some (.int .i64 t475) := (blk_cell BK476.out 1).trans rfl
     have hfz58_0 := blk_frozen BK476.out 0
     have hfz58_1 := blk_frozen BK476.out 1
     have hcz59_0 : w56.cell? ⟨gb471, 0, none⟩ = some (.slice none 0 0) := (blk_cell BK471.out 0).trans rfl
     have hcz59_1 : w56.cell? ⟨gb471, 1, none⟩ = some (.int .i64 0) := (blk_cell BK471.out 1).trans rfl
     have hfz59_0 := blk_frozen BK471.out 0
     have hfz59_1 := blk_frozen BK471.out 1
     try go_wp2
     refine bodyPost_ret (results_cell_row rfl _ _ gb471 32 #[.slice Ao47 t472.length co47, .int .i64 (Int.tmod t482 (l0_0.length : Int))] (0, 0) _ rfl (by (with_reducible repeat (first | refine blk_drewN ?_ _ | refine blk_drew ?_ | refine blk_alloc ?_ _)); refine blk_put (cs := #[.slice Ao47 t472.length co47, .int .i64 0]) ?_ 1 _ rfl; (with_reducible repeat (first | refine blk_drewN ?_ _ | refine blk_drew ?_ | refine blk_alloc ?_ _)); refine blk_put (cs := #[.slice none 0 0, .int .i64 0]) ?_ 0 _ rfl; (with_reducible repeat (first | refine blk_drewN ?_ _ | refine blk_drew ?_ | refine blk_alloc ?_ _)); refine blk_far ?_ NB471_476.out _; (with_reducible repeat (first | refine blk_drewN ?_ _ | refine blk_drew ?_ | refine blk_alloc ?_ _)); exact BK471.out) Try.underlying32 rfl (by kernel_rfl)) rfl ?_
     exact ⟨_, rt, kr (Kd.R_mono (Kd.R_far (p := ⟨gb471, 1, none⟩) (Kd.R_far (p := ⟨gb471, 0, none⟩) (Kd.R_far (p := ⟨gb476, 1, none⟩) (Kd.R_types (Kd.R_types HO474.out BK476.out (by decide)) BK471.out (by decide)) (fun _ hk => hk.1.2) (.int .i64 (Int.tmod t482 (l0_0.length : Int)))) (fun _ hk => hk.2) (.slice Ao47 t472.length co47)) (fun _ hk => hk.2) (.int .i64 (Int.tmod t482 (l0_0.length : Int)))) (fun _ hk => trivial)), bw HB.out⟩
   ·rw [if_neg c36] at H
    have c36b0 : (t478 == 5) = false := beq_eq_false_iff_ne.mpr c36
    have c36b1 : (t478 != 5) = true := bne_iff_ne.mpr c36
    by_cases c60 : t478 = 6
    ·rw [if_pos c60] at H
     have c60b0 : (t478 == 6) = true := beq_iff_eq.mpr c60
     have c60b1 : (t478 != 6) = false := bne_eq_false_iff_eq.mpr c60
     clear c60
     replace H := Option.bind_eq_some_iff.mp H
     obtain ⟨t483, A610, H⟩ := H
     replace H : (if (l0_0.length : Int) = 0 then (none) else (some (t472, Int.tmod t483 (l0_0.length : Int)))) = some (r1, r2) := H
     have A61 := Aside0.mk A610
     clear A610
     by_cases c62 : (l0_0.length : Int) = 0
     ·rw [if_pos c62] at H
      exact absurd H (by simp)
     ·rw [if_neg c62] at H
      have c62b0 : ((l0_0.length : Int) == 0) = false := beq_eq_false_iff_ne.mpr c62
      have c62b1 : ((l0_0.length : Int) != 0) = true := bne_iff_ne.mpr c62
      have c62b2 : ¬ (l0_0 = []) := fun h_ => c62 (by rw [h_]; rfl)
      simp only [Option.some.injEq, Prod.mk.injEq] at H
      obtain ⟨rfl, rfl⟩ := H
      go_enter Try.func31, Try.ntmps31
      try go_wp2_with (first | ((with_reducible refine gate_dst (N := 4) rfl ?_); refine bx (N := 4) (cs := #[.slice A0_0 l0_0.length c0_0]) (t := 29) ?_; intro gb469 hg w63 hbox hb; have n0_ := Aside0.mk (below_step (bw HB.out) hb); have n1_ := Aside0.mk (hbox); have n2_ := Aside0.mk ((gs hg (bw HB.out))); have n3_ := Aside0.mk ((gs hg (bw HB.out))); clear HB; have HB := n0_; have BK469 := n1_; have GW469 := n2_; have GE469 := n3_; clear n0_ n1_ n2_ n3_; clear hb hbox hg) | ((with_reducible refine gate_dst (N := 5) rfl ?_); refine bx (N := 5) (cs := #[.slice A1_0 l1_0.length c1_0, .int .i64 a1_1]) (t := 32) ?_; intro gb470 hg w64 hbox hb; have n0_ := Aside0.mk (blk_below (g := gb469) (o := .cells #[.slice A0_0 l0_0.length c0_0] 29 (0, 0)) (kb BK469.out) hb); have n1_ := Aside0.mk (below_step (bw HB.out) hb); have n2_ := Aside0.mk (hbox); have n3_ := Aside0.mk ((gs hg (bw HB.out))); have n4_ := Aside0.mk ((gs hg (bw HB.out))); have n5_ := Aside0.mk ((ga hg BK469.out)); have n6_ := Aside0.mk ((gc hg BK469.out)); clear BK469; clear HB; have BK469 := n0_; have HB := n1_; have BK470 := n2_; have GW470 := n3_; have GE470 := n4_; have NB469_470 := n5_; have NB470_469 := n6_; clear n0_ n1_ n2_ n3_ n4_ n5_ n6_; clear hb hbox hg) | ((with_reducible refine gate_dst (N := 8) rfl ?_); refine bx (N := 8) (cs := #[.slice none 0 0, .int .i64 0]) (t := 32) ?_; intro gb471 hg w65 hbox hb; have n0_ := Aside0.mk (blk_below (g := gb469) (o := .cells #[.slice A0_0 l0_0.length c0_0] 29 (0, 0)) (kb BK469.out) hb); have n1_ := Aside0.mk (blk_below (g := gb470) (o := .cells #[.slice A1_0 l1_0.length c1_0, .int .i64 a1_1] 32 (0, 0)) (kb BK470.out) hb); have n2_ := Aside0.mk (below_step (bw HB.out) hb); have n3_ := Aside0.mk (hbox); have n4_ := Aside0.mk ((gs hg (bw HB.out))); have n5_ := Aside0.mk ((gs hg (bw HB.out))); have n6_ := Aside0.mk ((ga hg BK469.out)); have n7_ := Aside0.mk ((gc hg BK469.out)); have n8_ := Aside0.mk ((ga hg BK470.out)); have n9_ := Aside0.mk ((gc hg BK470.out)); clear BK469; clear BK470; clear HB; have BK469 := n0_; have BK470 := n1_; have HB := n2_; have BK471 := n3_; have GW471 := n4_; have GE471 := n5_; have NB469_471 := n6_; have NB471_469 := n7_; have NB470_471 := n8_; have NB471_470 := n9_; clear n0_ n1_ n2_ n3_ n4_ n5_ n6_ n7_ n8_ n9_; clear hb hbox hg; have hnb66 := NB470_469.out; have hnc66 := NB469_470.out; have hnb67 := NB470_471.out; have hnc67 := NB471_470.out; have hcz68_0 : w65.cell? ⟨gb470, 0, none⟩ = some (.slice A1_0 l1_0.length c1_0) := (blk_cell BK470.out 0).trans rfl; have hcz68_1 : w65.cell? ⟨gb470, 1, none⟩ = some (.int .i64 a1_1) := (blk_cell BK470.out 1).trans rfl; have hfz68_0 := blk_frozen BK470.out 0; have hfz68_1 := blk_frozen BK470.out 1) | ((with_reducible refine gate_callee (f := 78) rfl ?_); refine goesM_ (some 13) rfl rfl Try.func78 #[.agg #[.slice A1_0 l1_0.length c1_0, .int .i64 a1_1]] ?_; (with_reducible refine (spec_l6Copy.calls _ _ l1_0 a1_1 t472 t475 _ ?side1 ?side2 A5.out).mono ?_); (case side1 => exact kc (Kd.C_below HR1_0.out HB.out)); (case side2 => exact HC1_0.out); rintro e w69 ⟨v473, rfl, ho0, hb⟩; refine ⟨_, rfl, ?_⟩; have n0_ := Aside0.mk (Kd.R_lower ho0 (below_size (bw HB.out))); have n1_ := Aside0.mk (blk_below (g := gb469) (o := .cells #[.slice A0_0 l0_0.length c0_0] 29 (0, 0)) (kb BK469.out) hb); have n2_ := Aside0.mk (blk_below (g := gb470) (o := .cells #[.slice A1_0 l1_0.length c1_0, .int .i64 a1_1] 32 (0, 0)) (kb BK470.out) hb); have n3_ := Aside0.mk (blk_below (g := gb471) (o := .cells #[.slice none 0 0, .int .i64 0] 32 (0, 0)) (kb BK471.out) hb); have n4_ := Aside0.mk (below_step (bw HB.out) hb); clear BK469; clear BK470; clear BK471; clear HB; have HO474 := n0_; have BK469 := n1_; have BK470 := n2_; have BK471 := n3_; have HB := n4_; clear n0_ n1_ n2_ n3_ n4_; (try clear hb); (try clear hb2); (try clear hk); (try clear hi); (try clear ho0)) | ((with_reducible refine gate_dst (N := 9) rfl ?_); refine bx (N := 9) (cs := #[.slice none 0 0, .int .i64 0]) (t := 32) ?_; intro gb476 hg w70 hbox hb; have n0_ := Aside0.mk (Kd.R_below (kr HO474.out) hb); have n1_ := Aside0.mk (blk_below (g := gb469) (o := .cells #[.slice A0_0 l0_0.length c0_0] 29 (0, 0)) (kb BK469.out) hb); have n2_ := Aside0.mk (blk_below (g := gb470) (o := .cells #[.slice A1_0 l1_0.length c1_0, .int .i64 a1_1] 32 (0, 0)) (kb BK470.out) hb); have n3_ := Aside0.mk (blk_below (g := gb471) (o := .cells #[.slice none 0 0, .int .i64 0] 32 (0, 0)) (kb BK471.out) hb); have n4_ := Aside0.mk (below_step (bw HB.out) hb); have n5_ := Aside0.mk (hbox); have n6_ := Aside0.mk ((gs hg (bw HB.out))); have n7_ := Aside0.mk ((gs hg (bw HB.out))); have n8_ := Aside0.mk ((ga hg BK469.out)); have n9_ := Aside0.mk ((gc hg BK469.out)); have n10_ := Aside0.mk ((ga hg BK470.out)); have n11_ := Aside0.mk ((gc hg BK470.out)); have n12_ := Aside0.mk ((ga hg BK471.out)); have n13_ := Aside0.mk ((gc hg BK471.out)); clear HO474; clear BK469; clear BK470; clear BK471; clear HB; have HO474 := n0_; have BK469 := n1_; have BK470 := n2_; have BK471 := n3_; have HB := n4_; have BK476 := n5_; have GW476 := n6_; have GE476 := n7_; have NB469_476 := n8_; have NB476_469 := n9_; have NB470_476 := n10_; have NB476_470 := n11_; have NB471_476 := n12_; have NB476_471 := n13_; clear n0_ n1_ n2_ n3_ n4_ n5_ n6_ n7_ n8_ n9_ n10_ n11_ n12_ n13_; clear hb hbox hg; obtain ⟨Ao71, co71, eo71⟩ := Kd.R_slice HO474.out; subst eo71; have hnb72 := NB476_469.out; have hnc72 := NB469_476.out; have hnb73 := NB476_470.out; have hnc73 := NB470_476.out; have hnb74 := NB476_471.out; have hnc74 := NB471_476.out; have hcz75_0 : w70.cell? ⟨gb476, 0, none⟩ = some (.slice none 0 0) := (blk_cell BK476.out 0).trans rfl; have hcz75_1 : w70.cell? ⟨gb476, 1, none⟩ = some (.int .i64 0) := (blk_cell BK476.out 1).trans rfl; have hfz75_0 := blk_frozen BK476.out 0; have hfz75_1 := blk_frozen BK476.out 1; have hnb76 := NB469_471.out; have hnc76 := NB471_469.out; have hcz77_0 : w70.cell? ⟨gb469, 0, none⟩ = some (.slice A0_0 l0_0.length c0_0) := (blk_cell BK469.out 0).trans rfl; have hfz77_0 := blk_frozen BK469.out 0; have hcz78_0 : w70.cell? ⟨gb470, 0, none⟩ = some (.slice A1_0 l1_0.length c1_0) := (blk_cell BK470.out 0).trans rfl; have hcz78_1 : w70.cell? ⟨gb470, 1, none⟩ = some (.int .i64 a1_1) := (blk_cell BK470.out 1).trans rfl; have hfz78_0 := blk_frozen BK470.out 0; have hfz78_1 := blk_frozen BK470.out 1) | ((with_reducible refine gate_callee (f := 33) rfl ?_); refine goesM_ (some 16) rfl rfl Try.func33 #[.agg #[.slice A0_0 l0_0.length c0_0], .agg #[.slice A1_0 l1_0.length c1_0, .int .i64 a1_1]] ?_; (with_reducible refine (spec_MemOk.calls k _ _ l0_0 _ _ l1_0 a1_1 true _ ?side1 ?side2 ?side3 ?side4 A6.out).mono ?_); (case side1 => exact Kd.C_below HR0_0.out (bw HB.out)); (case side2 => exact HC0_0.out); (case side3 => exact Kd.C_below HR1_0.out (bw HB.out)); (case side4 => exact HC1_0.out); rintro e w79 ⟨rfl, hb⟩; refine ⟨_, rfl, ?_⟩; have n0_ := Aside0.mk (Kd.R_below (kr ((Kd.R_mono (Kd.R_far (p := ⟨gb476, 1, none⟩) (Kd.R_far (p := ⟨gb476, 0, none⟩) (Kd.R_types HO474.out BK476.out (by decide)) (fun _ hk => hk.2) (.slice Ao71 t472.length co71)) (fun _ hk => hk.2) (.int .i64 t475)) (fun _ h_ => h_.1)))) hb); have n1_ := Aside0.mk (blk_below (g := gb469) (o := .cells #[.slice A0_0 l0_0.length c0_0] 29 (0, 0)) (kf BK469.out) hb); have n2_ := Aside0.mk (blk_below (g := gb470) (o := .cells #[.slice A1_0 l1_0.length c1_0, .int .i64 a1_1] 32 (0, 0)) (kf BK470.out) hb); have n3_ := Aside0.mk (blk_below (g := gb471) (o := .cells #[.slice none 0 0, .int .i64 0] 32 (0, 0)) (kf BK471.out) hb); have n4_ := Aside0.mk (blk_below (g := gb476) (o := .cells #[.slice Ao71 t472.length co71, .int .i64 t475] 32 (0, 0)) (by (with_reducible repeat (first | refine blk_drewN ?_ _ | refine blk_drew ?_ | refine blk_alloc ?_ _)); refine blk_put (cs := #[.slice Ao71 t472.length co71, .int .i64 0]) ?_ 1 _ rfl; (with_reducible repeat (first | refine blk_drewN ?_ _ | refine blk_drew ?_ | refine blk_alloc ?_ _)); refine blk_put (cs := #[.slice none 0 0, .int .i64 0]) ?_ 0 _ rfl; (with_reducible repeat (first | refine blk_drewN ?_ _ | refine blk_drew ?_ | refine blk_alloc ?_ _)); exact BK476.out) hb); have n5_ := Aside0.mk (below_step (bw HB.out) hb); clear HO474; clear BK469; clear BK470; clear BK471; clear BK476; clear HB; have HO474 := n0_; have BK469 := n1_; have BK470 := n2_; have BK471 := n3_; have BK476 := n4_; have HB := n5_; clear n0_ n1_ n2_ n3_ n4_ n5_; (try clear hb); (try clear hb2); (try clear hk); (try clear hi)) | ((with_reducible refine gate_callee (f := 12) rfl ?_); refine goesM_ (some 21) rfl rfl Try.func12 #[.int .i64 a2] ?_; (with_reducible refine (spec_Region.calls a2 t478 t479 _ A8.out).mono ?_); rintro e w' ⟨rfl, ⟨nd, rfl⟩⟩; refine ⟨_, rfl, ?_⟩; (try (rw [drewN_self w79]; generalize hq_ : World.drewN w79 _ = w79; have n0_ : Aside0 (Kd.R (Kd.int .i64) 3 w79 w.heap.size (fun _ => True) (.slice Ao71 t472.length co71) t472) := ⟨by rw [← hq_]; exact (kr HO474.out)⟩; have n1_ : Aside0 (w79.heap[gb469]? = some (.cells #[.slice A0_0 l0_0.length c0_0] 29 (0, 0))) := ⟨by rw [← hq_]; exact (kb BK469.out)⟩; have n2_ : Aside0 (w79.heap[gb470]? = some (.cells #[.slice A1_0 l1_0.length c1_0, .int .i64 a1_1] 32 (0, 0))) := ⟨by rw [← hq_]; exact (kb BK470.out)⟩; have n3_ : Aside0 (w79.heap[gb471]? = some (.cells #[.slice none 0 0, .int .i64 0] 32 (0, 0))) := ⟨by rw [← hq_]; exact (kb BK471.out)⟩; have n4_ : Aside0 (w79.heap[gb476]? = some (.cells #[.slice Ao71 t472.length co71, .int .i64 t475] 32 (0, 0))) := ⟨by rw [← hq_]; exact (kb BK476.out)⟩; have n5_ : Aside0 (Below w.heap.size w w79) := ⟨by rw [← hq_]; exact (bw HB.out)⟩; clear HO474 BK469 BK470 BK471 BK476 HB hq_; have HO474 := n0_; have BK469 := n1_; have BK470 := n2_; have BK471 := n3_; have BK476 := n4_; have HB := n5_; clear n0_ n1_ n2_ n3_ n4_ n5_; (try (have hfz68_0 := blk_frozen BK470.out 0)); (try (have hfz68_1 := blk_frozen BK470.out 1)); (try (have hfz75_0 := blk_frozen BK476.out 0)); (try (have hfz75_1 := blk_frozen BK476.out 1)); (try (have hfz77_0 := blk_frozen BK469.out 0)); (try (have hfz78_0 := blk_frozen BK470.out 0)); (try (have hfz78_1 := blk_frozen BK470.out 1))))))
      have n0_ := Aside0.mk (Kd.R_drew HO474.out)
      have n1_ := Aside0.mk (blk_drew BK469.out)
      have n2_ := Aside0.mk (blk_drew BK470.out)
      have n3_ := Aside0.mk (blk_drew BK471.out)
      have n4_ := Aside0.mk (blk_drew BK476.out)
      have n5_ := Aside0.mk (below_drew1 HB.out)
      clear HO474; clear BK469; clear BK470; clear BK471; clear BK476; clear HB; have HO474 := n0_; have BK469 := n1_; have BK470 := n2_; have BK471 := n3_; have BK476 := n4_; have HB := n5_; clear n0_ n1_ n2_ n3_ n4_ n5_
      refine start_ (n := 8) (S := fun w' => w'.cell? ⟨gb469, 0, none⟩ = some (.slice A0_0 l0_0.length c0_0)) (ds := []) #[false, false, false, false, false, false, false, false] (by kernel_rfl) rfl rfl ((blk_cell BK469.out 0).trans rfl) (fun hHeld => ?_); refine with_tabW spec_Poke.tab10 spec_Poke.bits10 (fun HT_ HW_ => ?_)
      generalize w79.drew = w80 at HO474 BK469 BK470 BK471 BK476 HB hHeld ⊢
      refine pure_ (i := 0) (N := some 36) (v := ?_) (a' := ?_) #[true, false, false, false, false, false, false, false] rfl rfl (any_of HT_.out (by kernel_rfl)) (fun _ _ _ h => h) (Or.inl ⟨by rfl, ?_⟩) ?_ ?_
      rotate_left
      ·intro w'
       go_simp
       with_reducible rfl
      rotate_left
      ·simp only [Act.put, List.setIfInBounds_toArray, List.set_cons_zero, List.set_cons_succ, i64_w, i32_w]
       rfl
      refine pure_ (i := 2) (N := some 38) (v := ?_) (a' := ?_) #[true, false, true, false, false, false, false, false] rfl rfl (any_of HT_.out (by kernel_rfl)) (fun _ _ _ h => h) (Or.inl ⟨by rfl, ?_⟩) ?_ ?_
      rotate_left
      ·intro w'
       go_simp
       with_reducible rfl
      rotate_left
      ·simp only [Act.put, List.setIfInBounds_toArray, List.set_cons_zero, List.set_cons_succ, i64_w, i32_w]
       rfl
      refine take_ (i := 3) (N := some 39) (v := ?_) (a' := ?_) #[true, false, true, true, false, false, false, false] rfl rfl (take_ofW HT_.out HW_.out (by kernel_rfl)) (fun _ _ _ h => h) (Or.inl ⟨by rfl, ?_⟩) hHeld ?_ ?_
      rotate_left
      ·intro w' s0
       go_simp
       with_reducible rfl
      rotate_left
      ·simp only [Act.put, List.setIfInBounds_toArray, List.set_cons_zero, List.set_cons_succ, i64_w, i32_w]
       rfl
      refine pure_ (i := 4) (N := some 40) (v := ?_) (a' := ?_) #[true, false, true, true, true, false, false, false] rfl rfl (any_of HT_.out (by kernel_rfl)) (fun _ _ _ h => h) (Or.inl ⟨by rfl, ?_⟩) ?_ ?_
      rotate_left
      ·intro w'
       go_simp
       with_reducible rfl
      rotate_left
      ·simp only [Act.put, List.setIfInBounds_toArray, List.set_cons_zero, List.set_cons_succ, i64_w, i32_w]
       rfl
      refine one_ (i := 1) (N := some 37) #[true, true, true, true, true, false, false, false] rfl rfl (one_of HT_.out (by kernel_rfl)) (by decide) (fun K hK => ?_)
      refine goes_ Try.func71 (by kernel_rfl) rfl #[.int .i64 a3] (by rfl) rfl rfl (by (try simp only [List.map_toArray, List.map_cons, List.map_nil]); first | done | rfl | (simp only [List.length_drop, List.length_take]; rfl)) ?_
      with_reducible refine (spec_Byte.calls a3 t483 _ A61.out).mono ?_
      rintro e w' ⟨rfl, ⟨nd, rfl⟩⟩
      refine ⟨_, rfl, ?_⟩
      have n0_ := Aside0.mk (Kd.R_drewN HO474.out nd)
      have n1_ := Aside0.mk (blk_drewN BK469.out nd)
      have n2_ := Aside0.mk (blk_drewN BK470.out nd)
      have n3_ := Aside0.mk (blk_drewN BK471.out nd)
      have n4_ := Aside0.mk (blk_drewN BK476.out nd)
      have n5_ := Aside0.mk (pw_below_drewN HB.out nd)
      clear HO474; clear BK469; clear BK470; clear BK471; clear BK476; clear HB; have HO474 := n0_; have BK469 := n1_; have BK470 := n2_; have BK471 := n3_; have BK476 := n4_; have HB := n5_; clear n0_ n1_ n2_ n3_ n4_ n5_
      generalize w80.drewN nd = w80 at HO474 BK469 BK470 BK471 BK476 HB ⊢
      refine hK.out _ _ ((blk_cell BK469.out 0).trans rfl) (fun hHeld => ?_)
      clear hK K
      refine norm_ (a' := ?_) ?_ ?_
      rotate_left
      ·show Act.put _ (some 37) _ = _
       simp only [Act.put, List.setIfInBounds_toArray, List.set_cons_zero, List.set_cons_succ, i64_w, i32_w]
       rfl
      refine pure_ (i := 5) (N := some 41) (v := ?_) (a' := ?_) #[true, true, true, true, true, true, false, false] rfl rfl (any_of HT_.out (by kernel_rfl)) (fun _ _ _ h => h) (Or.inl ⟨by rfl, ?_⟩) ?_ ?_
      rotate_left
      ·intro w'
       go_simp
       with_reducible rfl
      rotate_left
      ·simp only [Act.put, List.setIfInBounds_toArray, List.set_cons_zero, List.set_cons_succ, i64_w, i32_w]
       rfl
      refine pure_ (i := 6) (N := some 42) (v := ?_) (a' := ?_) #[true, true, true, true, true, true, true, false] rfl rfl (any_of HT_.out (by kernel_rfl)) (fun _ _ _ h => h) (Or.inl ⟨by rfl, ?_⟩) ?_ ?_
      rotate_left
      ·intro w'
       go_simp
       with_reducible rfl
      rotate_left
      ·simp only [Act.put, List.setIfInBounds_toArray, List.set_cons_zero, List.set_cons_succ, i64_w, i32_w]
       rfl
      refine one_ (i := 7) (N := none) #[true, true, true, true, true, true, true, true] rfl rfl (one_of HT_.out (by kernel_rfl)) (by decide) (fun K hK => ?_)
      have hs81 : w80.cell? ⟨gb476, 1, none⟩ = some (.int .i64 t475) := (blk_cell BK476.out 1).trans rfl
      have hfs81 := blk_frozen BK476.out 1
      have hns81_0 := NB469_476.out
      have hns81_1 := NB470_476.out
      have hns81_2 := NB471_476.out
      have hms81_0 := NB476_469.out
      have hms81_1 := NB476_470.out
      have hms81_2 := NB476_471.out
      refine skip_ (w1 := ?_) (by rfl) rfl ?_ ?_
      rotate_left
      ·go_simp
       rfl
      refine hK.out _ _ (((cell_far (p := ⟨gb476, _, none⟩) NB469_476.out _).trans (hHeld))) (fun hHeld => ?_)
      clear hK K
      refine done_ (done_of HT_.out (by kernel_rfl)) ?_
      have hcz82_0 : w80.cell? ⟨gb476, 0, none⟩ = some (.slice Ao71 t472.length co71) := (blk_cell BK476.out 0).trans rfl
      have hcz82_1 : w80.cell? ⟨gb476, 1, none⟩ = some (.int .i64 t475) := (blk_cell BK476.out 1).trans rfl
      have hfz82_0 := blk_frozen BK476.out 0
      have hfz82_1 := blk_frozen BK476.out 1
      have hcz83_0 : w80.cell? ⟨gb471, 0, none⟩ = some (.slice none 0 0) := (blk_cell BK471.out 0).trans rfl
      have hcz83_1 : w80.cell? ⟨gb471, 1, none⟩ = some (.int .i64 0) := (blk_cell BK471.out 1).trans rfl
      have hfz83_0 := blk_frozen BK471.out 0
      have hfz83_1 := blk_frozen BK471.out 1
      try go_wp2
      refine bodyPost_ret (results_cell_row rfl _ _ gb471 32 #[.slice Ao71 t472.length co71, .int .i64 (Int.tmod t483 (l0_0.length : Int))] (0, 0) _ rfl (by (with_reducible repeat (first | refine blk_drewN ?_ _ | refine blk_drew ?_ | refine blk_alloc ?_ _)); refine blk_put (cs := #[.slice Ao71 t472.length co71, .int .i64 0]) ?_ 1 _ rfl; (with_reducible repeat (first | refine blk_drewN ?_ _ | refine blk_drew ?_ | refine blk_alloc ?_ _)); refine blk_put (cs := #[.slice none 0 0, .int .i64 0]) ?_ 0 _ rfl; (with_reducible repeat (first | refine blk_drewN ?_ _ | refine blk_drew ?_ | refine blk_alloc ?_ _)); refine blk_far ?_ NB471_476.out _; (with_reducible repeat (first | refine blk_drewN ?_ _ | refine blk_drew ?_ | refine blk_alloc ?_ _)); exact BK471.out) Try.underlying32 rfl (by kernel_rfl)) rfl ?_
      exact ⟨_, rt, kr (Kd.R_mono (Kd.R_far (p := ⟨gb471, 1, none⟩) (Kd.R_far (p := ⟨gb471, 0, none⟩) (Kd.R_far (p := ⟨gb476, 1, none⟩) (Kd.R_types (Kd.R_types HO474.out BK476.out (by decide)) BK471.out (by decide)) (fun _ hk => hk.1.2) (.int .i64 (Int.tmod t483 (l0_0.length : Int)))) (fun _ hk => hk.2) (.slice Ao71 t472.length co71)) (fun _ hk => hk.2) (.int .i64 (Int.tmod t483 (l0_0.length : Int)))) (fun _ hk => trivial)), bw HB.out⟩
    ·rw [if_neg c60] at H
     have c60b0 : (t478 == 6) = false := beq_eq_false_iff_ne.mpr c60
     have c60b1 : (t478 != 6) = true := bne_iff_ne.mpr c60
     simp only [Option.some.injEq, Prod.mk.injEq] at H
     obtain ⟨rfl, rfl⟩ := H
     go_enter Try.func31, Try.ntmps31
     go_wp2_with (first | ((with_reducible refine gate_dst (N := 4) rfl ?_); refine bx (N := 4) (cs := #[.slice A0_0 l0_0.length c0_0]) (t := 29) ?_; intro gb469 hg w84 hbox hb; have n0_ := Aside0.mk (below_step (bw HB.out) hb); have n1_ := Aside0.mk (hbox); have n2_ := Aside0.mk ((gs hg (bw HB.out))); have n3_ := Aside0.mk ((gs hg (bw HB.out))); clear HB; have HB := n0_; have BK469 := n1_; have GW469 := n2_; have GE469 := n3_; clear n0_ n1_ n2_ n3_; clear hb hbox hg) | ((with_reducible refine gate_dst (N := 5) rfl ?_); refine bx (N := 5) (cs := #[.slice A1_0 l1_0.length c1_0, .int .i64 a1_1]) (t := 32) ?_; intro gb470 hg w85 hbox hb; have n0_ := Aside0.mk (blk_below (g := gb469) (o := .cells #[.slice A0_0 l0_0.length c0_0] 29 (0, 0)) (kb BK469.out) hb); have n1_ := Aside0.mk (below_step (bw HB.out) hb); have n2_ := Aside0.mk (hbox); have n3_ := Aside0.mk ((gs hg (bw HB.out))); have n4_ := Aside0.mk ((gs hg (bw HB.out))); have n5_ := Aside0.mk ((ga hg BK469.out)); have n6_ := Aside0.mk ((gc hg BK469.out)); clear BK469; clear HB; have BK469 := n0_; have HB := n1_; have BK470 := n2_; have GW470 := n3_; have GE470 := n4_; have NB469_470 := n5_; have NB470_469 := n6_; clear n0_ n1_ n2_ n3_ n4_ n5_ n6_; clear hb hbox hg) | ((with_reducible refine gate_dst (N := 8) rfl ?_); refine bx (N := 8) (cs := #[.slice none 0 0, .int .i64 0]) (t := 32) ?_; intro gb471 hg w86 hbox hb; have n0_ := Aside0.mk (blk_below (g := gb469) (o := .cells #[.slice A0_0 l0_0.length c0_0] 29 (0, 0)) (kb BK469.out) hb); have n1_ := Aside0.mk (blk_below (g := gb470) (o := .cells #[.slice A1_0 l1_0.length c1_0, .int .i64 a1_1] 32 (0, 0)) (kb BK470.out) hb); have n2_ := Aside0.mk (below_step (bw HB.out) hb); have n3_ := Aside0.mk (hbox); have n4_ := Aside0.mk ((gs hg (bw HB.out))); have n5_ := Aside0.mk ((gs hg (bw HB.out))); have n6_ := Aside0.mk ((ga hg BK469.out)); have n7_ := Aside0.mk ((gc hg BK469.out)); have n8_ := Aside0.mk ((ga hg BK470.out)); have n9_ := Aside0.mk ((gc hg BK470.out)); clear BK469; clear BK470; clear HB; have BK469 := n0_; have BK470 := n1_; have HB := n2_; have BK471 := n3_; have GW471 := n4_; have GE471 := n5_; have NB469_471 := n6_; have NB471_469 := n7_; have NB470_471 := n8_; have NB471_470 := n9_; clear n0_ n1_ n2_ n3_ n4_ n5_ n6_ n7_ n8_ n9_; clear hb hbox hg; have hnb87 := NB470_469.out; have hnc87 := NB469_470.out; have hnb88 := NB470_471.out; have hnc88 := NB471_470.out; have hcz89_0 : w86.cell? ⟨gb470, 0, none⟩ = some (.slice A1_0 l1_0.length c1_0) := (blk_cell BK470.out 0).trans rfl; have hcz89_1 : w86.cell? ⟨gb470, 1, none⟩ = some (.int .i64 a1_1) := (blk_cell BK470.out 1).trans rfl; have hfz89_0 := blk_frozen BK470.out 0; have hfz89_1 := blk_frozen BK470.out 1) | ((with_reducible refine gate_callee (f := 78) rfl ?_); refine goesM_ (some 13) rfl rfl Try.func78 #[.agg #[.slice A1_0 l1_0.length c1_0, .int .i64 a1_1]] ?_; (with_reducible refine (spec_l6Copy.calls _ _ l1_0 a1_1 t472 t475 _ ?side1 ?side2 A5.out).mono ?_); (case side1 => exact kc (Kd.C_below HR1_0.out HB.out)); (case side2 => exact HC1_0.out); rintro e w90 ⟨v473, rfl, ho0, hb⟩; refine ⟨_, rfl, ?_⟩; have n0_ := Aside0.mk (Kd.R_lower ho0 (below_size (bw HB.out))); have n1_ := Aside0.mk (blk_below (g := gb469) (o := .cells #[.slice A0_0 l0_0.length c0_0] 29 (0, 0)) (kb BK469.out) hb); have n2_ := Aside0.mk (blk_below (g := gb470) (o := .cells #[.slice A1_0 l1_0.length c1_0, .int .i64 a1_1] 32 (0, 0)) (kb BK470.out) hb); have n3_ := Aside0.mk (blk_below (g := gb471) (o := .cells #[.slice none 0 0, .int .i64 0] 32 (0, 0)) (kb BK471.out) hb); have n4_ := Aside0.mk (below_step (bw HB.out) hb); clear BK469; clear BK470; clear BK471; clear HB; have HO474 := n0_; have BK469 := n1_; have BK470 := n2_; have BK471 := n3_; have HB := n4_; clear n0_ n1_ n2_ n3_ n4_; (try clear hb); (try clear hb2); (try clear hk); (try clear hi); (try clear ho0)) | ((with_reducible refine gate_dst (N := 9) rfl ?_); refine bx (N := 9) (cs := #[.slice none 0 0, .int .i64 0]) (t := 32) ?_; intro gb476 hg w91 hbox hb; have n0_ := Aside0.mk (Kd.R_below (kr HO474.out) hb); have n1_ := Aside0.mk (blk_below (g := gb469) (o := .cells #[.slice A0_0 l0_0.length c0_0] 29 (0, 0)) (kb BK469.out) hb); have n2_ := Aside0.mk (blk_below (g := gb470) (o := .cells #[.slice A1_0 l1_0.length c1_0, .int .i64 a1_1] 32 (0, 0)) (kb BK470.out) hb); have n3_ := Aside0.mk (blk_below (g := gb471) (o := .cells #[.slice none 0 0, .int .i64 0] 32 (0, 0)) (kb BK471.out) hb); have n4_ := Aside0.mk (below_step (bw HB.out) hb); have n5_ := Aside0.mk (hbox); have n6_ := Aside0.mk ((gs hg (bw HB.out))); have n7_ := Aside0.mk ((gs hg (bw HB.out))); have n8_ := Aside0.mk ((ga hg BK469.out)); have n9_ := Aside0.mk ((gc hg BK469.out)); have n10_ := Aside0.mk ((ga hg BK470.out)); have n11_ := Aside0.mk ((gc hg BK470.out)); have n12_ := Aside0.mk ((ga hg BK471.out)); have n13_ := Aside0.mk ((gc hg BK471.out)); clear HO474; clear BK469; clear BK470; clear BK471; clear HB; have HO474 := n0_; have BK469 := n1_; have BK470 := n2_; have BK471 := n3_; have HB := n4_; have BK476 := n5_; have GW476 := n6_; have GE476 := n7_; have NB469_476 := n8_; have NB476_469 := n9_; have NB470_476 := n10_; have NB476_470 := n11_; have NB471_476 := n12_; have NB476_471 := n13_; clear n0_ n1_ n2_ n3_ n4_ n5_ n6_ n7_ n8_ n9_ n10_ n11_ n12_ n13_; clear hb hbox hg; obtain ⟨Ao92, co92, eo92⟩ := Kd.R_slice HO474.out; subst eo92; have hnb93 := NB476_469.out; have hnc93 := NB469_476.out; have hnb94 := NB476_470.out; have hnc94 := NB470_476.out; have hnb95 := NB476_471.out; have hnc95 := NB471_476.out; have hcz96_0 : w91.cell? ⟨gb476, 0, none⟩ = some (.slice none 0 0) := (blk_cell BK476.out 0).trans rfl; have hcz96_1 : w91.cell? ⟨gb476, 1, none⟩ = some (.int .i64 0) := (blk_cell BK476.out 1).trans rfl; have hfz96_0 := blk_frozen BK476.out 0; have hfz96_1 := blk_frozen BK476.out 1; have hnb97 := NB469_471.out; have hnc97 := NB471_469.out; have hcz98_0 : w91.cell? ⟨gb469, 0, none⟩ = some (.slice A0_0 l0_0.length c0_0) := (blk_cell BK469.out 0).trans rfl; have hfz98_0 := blk_frozen BK469.out 0; have hcz99_0 : w91.cell? ⟨gb470, 0, none⟩ = some (.slice A1_0 l1_0.length c1_0) := (blk_cell BK470.out 0).trans rfl; have hcz99_1 : w91.cell? ⟨gb470, 1, none⟩ = some (.int .i64 a1_1) := (blk_cell BK470.out 1).trans rfl; have hfz99_0 := blk_frozen BK470.out 0; have hfz99_1 := blk_frozen BK470.out 1) | ((with_reducible refine gate_callee (f := 33) rfl ?_); refine goesM_ (some 16) rfl rfl Try.func33 #[.agg #[.slice A0_0 l0_0.length c0_0], .agg #[.slice A1_0 l1_0.length c1_0, .int .i64 a1_1]] ?_; (with_reducible refine (spec_MemOk.calls k _ _ l0_0 _ _ l1_0 a1_1 true _ ?side1 ?side2 ?side3 ?side4 A6.out).mono ?_); (case side1 => exact Kd.C_below HR0_0.out (bw HB.out)); (case side2 => exact HC0_0.out); (case side3 => exact Kd.C_below HR1_0.out (bw HB.out)); (case side4 => exact HC1_0.out); rintro e w100 ⟨rfl, hb⟩; refine ⟨_, rfl, ?_⟩; have n0_ := Aside0.mk (Kd.R_below (kr ((Kd.R_mono (Kd.R_far (p := ⟨gb476, 1, none⟩) (Kd.R_far (p := ⟨gb476, 0, none⟩) (Kd.R_types HO474.out BK476.out (by decide)) (fun _ hk => hk.2) (.slice Ao92 t472.length co92)) (fun _ hk => hk.2) (.int .i64 t475)) (fun _ h_ => h_.1)))) hb); have n1_ := Aside0.mk (blk_below (g := gb469) (o := .cells #[.slice A0_0 l0_0.length c0_0] 29 (0, 0)) (kf BK469.out) hb); have n2_ := Aside0.mk (blk_below (g := gb470) (o := .cells #[.slice A1_0 l1_0.length c1_0, .int .i64 a1_1] 32 (0, 0)) (kf BK470.out) hb); have n3_ := Aside0.mk (blk_below (g := gb471) (o := .cells #[.slice none 0 0, .int .i64 0] 32 (0, 0)) (kf BK471.out) hb); have n4_ := Aside0.mk (blk_below (g := gb476) (o := .cells #[.slice Ao92 t472.length co92, .int .i64 t475] 32 (0, 0)) (by (with_reducible repeat (first | refine blk_drewN ?_ _ | refine blk_drew ?_ | refine blk_alloc ?_ _)); refine blk_put (cs := #[.slice Ao92 t472.length co92, .int .i64 0]) ?_ 1 _ rfl; (with_reducible repeat (first | refine blk_drewN ?_ _ | refine blk_drew ?_ | refine blk_alloc ?_ _)); refine blk_put (cs := #[.slice none 0 0, .int .i64 0]) ?_ 0 _ rfl; (with_reducible repeat (first | refine blk_drewN ?_ _ | refine blk_drew ?_ | refine blk_alloc ?_ _)); exact BK476.out) hb); have n5_ := Aside0.mk (below_step (bw HB.out) hb); clear HO474; clear BK469; clear BK470; clear BK471; clear BK476; clear HB; have HO474 := n0_; have BK469 := n1_; have BK470 := n2_; have BK471 := n3_; have BK476 := n4_; have HB := n5_; clear n0_ n1_ n2_ n3_ n4_ n5_; (try clear hb); (try clear hb2); (try clear hk); (try clear hi)) | ((with_reducible refine gate_callee (f := 12) rfl ?_); refine goesM_ (some 21) rfl rfl Try.func12 #[.int .i64 a2] ?_; (with_reducible refine (spec_Region.calls a2 t478 t479 _ A8.out).mono ?_); rintro e w' ⟨rfl, ⟨nd, rfl⟩⟩; refine ⟨_, rfl, ?_⟩; (try (rw [drewN_self w100]; generalize hq_ : World.drewN w100 _ = w100; have n0_ : Aside0 (Kd.R (Kd.int .i64) 3 w100 w.heap.size (fun _ => True) (.slice Ao92 t472.length co92) t472) := ⟨by rw [← hq_]; exact (kr HO474.out)⟩; have n1_ : Aside0 (w100.heap[gb469]? = some (.cells #[.slice A0_0 l0_0.length c0_0] 29 (0, 0))) := ⟨by rw [← hq_]; exact (kb BK469.out)⟩; have n2_ : Aside0 (w100.heap[gb470]? = some (.cells #[.slice A1_0 l1_0.length c1_0, .int .i64 a1_1] 32 (0, 0))) := ⟨by rw [← hq_]; exact (kb BK470.out)⟩; have n3_ : Aside0 (w100.heap[gb471]? = some (.cells #[.slice none 0 0, .int .i64 0] 32 (0, 0))) := ⟨by rw [← hq_]; exact (kb BK471.out)⟩; have n4_ : Aside0 (w100.heap[gb476]? = some (.cells #[.slice Ao92 t472.length co92, .int .i64 t475] 32 (0, 0))) := ⟨by rw [← hq_]; exact (kb BK476.out)⟩; have n5_ : Aside0 (Below w.heap.size w w100) := ⟨by rw [← hq_]; exact (bw HB.out)⟩; clear HO474 BK469 BK470 BK471 BK476 HB hq_; have HO474 := n0_; have BK469 := n1_; have BK470 := n2_; have BK471 := n3_; have BK476 := n4_; have HB := n5_; clear n0_ n1_ n2_ n3_ n4_ n5_; (try (have hfz89_0 := blk_frozen BK470.out 0)); (try (have hfz89_1 := blk_frozen BK470.out 1)); (try (have hfz96_0 := blk_frozen BK476.out 0)); (try (have hfz96_1 := blk_frozen BK476.out 1)); (try (have hfz98_0 := blk_frozen BK469.out 0)); (try (have hfz99_0 := blk_frozen BK470.out 0)); (try (have hfz99_1 := blk_frozen BK470.out 1)); (try (have hcz101_0 : w100.cell? ⟨gb476, 0, none⟩ = some (.slice Ao92 t472.length co92) := (blk_cell BK476.out 0).trans rfl)); (try (have hcz101_1 : w100.cell? ⟨gb476, 1, none⟩ = some (.int .i64 t475) := (blk_cell BK476.out 1).trans rfl)); (try (have hfz101_0 := blk_frozen BK476.out 0)); (try (have hfz101_1 := blk_frozen BK476.out 1)); (try (have hcz102_0 : w100.cell? ⟨gb471, 0, none⟩ = some (.slice none 0 0) := (blk_cell BK471.out 0).trans rfl)); (try (have hcz102_1 : w100.cell? ⟨gb471, 1, none⟩ = some (.int .i64 0) := (blk_cell BK471.out 1).trans rfl)); (try (have hfz102_0 := blk_frozen BK471.out 0)); (try (have hfz102_1 := blk_frozen BK471.out 1)))); have hcz101_0 : w100.cell? ⟨gb476, 0, none⟩ = some (.slice Ao92 t472.length co92) := (blk_cell BK476.out 0).trans rfl; have hcz101_1 : w100.cell? ⟨gb476, 1, none⟩ = some (.int .i64 t475) := (blk_cell BK476.out 1).trans rfl; have hfz101_0 := blk_frozen BK476.out 0; have hfz101_1 := blk_frozen BK476.out 1; have hcz102_0 : w100.cell? ⟨gb471, 0, none⟩ = some (.slice none 0 0) := (blk_cell BK471.out 0).trans rfl; have hcz102_1 : w100.cell? ⟨gb471, 1, none⟩ = some (.int .i64 0) := (blk_cell BK471.out 1).trans rfl; have hfz102_0 := blk_frozen BK471.out 0; have hfz102_1 := blk_frozen BK471.out 1))
     refine bodyPost_ret (results_cell_row rfl _ _ gb471 32 #[.slice Ao92 t472.length co92, .int .i64 t475] (0, 0) _ rfl (by (with_reducible repeat (first | refine blk_drewN ?_ _ | refine blk_drew ?_ | refine blk_alloc ?_ _)); refine blk_put (cs := #[.slice Ao92 t472.length co92, .int .i64 0]) ?_ 1 _ rfl; (with_reducible repeat (first | refine blk_drewN ?_ _ | refine blk_drew ?_ | refine blk_alloc ?_ _)); refine blk_put (cs := #[.slice none 0 0, .int .i64 0]) ?_ 0 _ rfl; (with_reducible repeat (first | refine blk_drewN ?_ _ | refine blk_drew ?_ | refine blk_alloc ?_ _)); exact BK471.out) Try.underlying32 rfl (by kernel_rfl)) rfl ?_
     exact ⟨_, rt, kr (Kd.R_mono (Kd.R_far (p := ⟨gb471, 1, none⟩) (Kd.R_far (p := ⟨gb471, 0, none⟩) (Kd.R_types HO474.out BK471.out (by decide)) (fun _ hk => hk.2) (.slice Ao92 t472.length co92)) (fun _ hk => hk.2) (.int .i64 t475)) (fun _ hk => trivial)), bw HB.out⟩
 ·replace c7 := Bool.eq_false_iff.mpr c7
  subst c7
  have H1 : (some (t472, t475)) = some (r1, r2) := by rw [if_neg (show ¬ (false = true) by decide)] at H; exact H
  clear H
  have H := H1
  clear H1
  simp only [Option.some.injEq, Prod.mk.injEq] at H
  obtain ⟨rfl, rfl⟩ := H
  go_enter Try.func31, Try.ntmps31
  go_wp2_with (first | ((with_reducible refine gate_dst (N := 4) rfl ?_); refine bx (N := 4) (cs := #[.slice A0_0 l0_0.length c0_0]) (t := 29) ?_; intro gb469 hg w103 hbox hb; have n0_ := Aside0.mk (below_step (bw HB.out) hb); have n1_ := Aside0.mk (hbox); have n2_ := Aside0.mk ((gs hg (bw HB.out))); have n3_ := Aside0.mk ((gs hg (bw HB.out))); clear HB; have HB := n0_; have BK469 := n1_; have GW469 := n2_; have GE469 := n3_; clear n0_ n1_ n2_ n3_; clear hb hbox hg) | ((with_reducible refine gate_dst (N := 5) rfl ?_); refine bx (N := 5) (cs := #[.slice A1_0 l1_0.length c1_0, .int .i64 a1_1]) (t := 32) ?_; intro gb470 hg w104 hbox hb; have n0_ := Aside0.mk (blk_below (g := gb469) (o := .cells #[.slice A0_0 l0_0.length c0_0] 29 (0, 0)) (kb BK469.out) hb); have n1_ := Aside0.mk (below_step (bw HB.out) hb); have n2_ := Aside0.mk (hbox); have n3_ := Aside0.mk ((gs hg (bw HB.out))); have n4_ := Aside0.mk ((gs hg (bw HB.out))); have n5_ := Aside0.mk ((ga hg BK469.out)); have n6_ := Aside0.mk ((gc hg BK469.out)); clear BK469; clear HB; have BK469 := n0_; have HB := n1_; have BK470 := n2_; have GW470 := n3_; have GE470 := n4_; have NB469_470 := n5_; have NB470_469 := n6_; clear n0_ n1_ n2_ n3_ n4_ n5_ n6_; clear hb hbox hg) | ((with_reducible refine gate_dst (N := 8) rfl ?_); refine bx (N := 8) (cs := #[.slice none 0 0, .int .i64 0]) (t := 32) ?_; intro gb471 hg w105 hbox hb; have n0_ := Aside0.mk (blk_below (g := gb469) (o := .cells #[.slice A0_0 l0_0.length c0_0] 29 (0, 0)) (kb BK469.out) hb); have n1_ := Aside0.mk (blk_below (g := gb470) (o := .cells #[.slice A1_0 l1_0.length c1_0, .int .i64 a1_1] 32 (0, 0)) (kb BK470.out) hb); have n2_ := Aside0.mk (below_step (bw HB.out) hb); have n3_ := Aside0.mk (hbox); have n4_ := Aside0.mk ((gs hg (bw HB.out))); have n5_ := Aside0.mk ((gs hg (bw HB.out))); have n6_ := Aside0.mk ((ga hg BK469.out)); have n7_ := Aside0.mk ((gc hg BK469.out)); have n8_ := Aside0.mk ((ga hg BK470.out)); have n9_ := Aside0.mk ((gc hg BK470.out)); clear BK469; clear BK470; clear HB; have BK469 := n0_; have BK470 := n1_; have HB := n2_; have BK471 := n3_; have GW471 := n4_; have GE471 := n5_; have NB469_471 := n6_; have NB471_469 := n7_; have NB470_471 := n8_; have NB471_470 := n9_; clear n0_ n1_ n2_ n3_ n4_ n5_ n6_ n7_ n8_ n9_; clear hb hbox hg; have hnb106 := NB470_469.out; have hnc106 := NB469_470.out; have hnb107 := NB470_471.out; have hnc107 := NB471_470.out; have hcz108_0 : w105.cell? ⟨gb470, 0, none⟩ = some (.slice A1_0 l1_0.length c1_0) := (blk_cell BK470.out 0).trans rfl; have hcz108_1 : w105.cell? ⟨gb470, 1, none⟩ = some (.int .i64 a1_1) := (blk_cell BK470.out 1).trans rfl; have hfz108_0 := blk_frozen BK470.out 0; have hfz108_1 := blk_frozen BK470.out 1) | ((with_reducible refine gate_callee (f := 78) rfl ?_); refine goesM_ (some 13) rfl rfl Try.func78 #[.agg #[.slice A1_0 l1_0.length c1_0, .int .i64 a1_1]] ?_; (with_reducible refine (spec_l6Copy.calls _ _ l1_0 a1_1 t472 t475 _ ?side1 ?side2 A5.out).mono ?_); (case side1 => exact kc (Kd.C_below HR1_0.out HB.out)); (case side2 => exact HC1_0.out); rintro e w109 ⟨v473, rfl, ho0, hb⟩; refine ⟨_, rfl, ?_⟩; have n0_ := Aside0.mk (Kd.R_lower ho0 (below_size (bw HB.out))); have n1_ := Aside0.mk (blk_below (g := gb469) (o := .cells #[.slice A0_0 l0_0.length c0_0] 29 (0, 0)) (kb BK469.out) hb); have n2_ := Aside0.mk (blk_below (g := gb470) (o := .cells #[.slice A1_0 l1_0.length c1_0, .int .i64 a1_1] 32 (0, 0)) (kb BK470.out) hb); have n3_ := Aside0.mk (blk_below (g := gb471) (o := .cells #[.slice none 0 0, .int .i64 0] 32 (0, 0)) (kb BK471.out) hb); have n4_ := Aside0.mk (below_step (bw HB.out) hb); clear BK469; clear BK470; clear BK471; clear HB; have HO474 := n0_; have BK469 := n1_; have BK470 := n2_; have BK471 := n3_; have HB := n4_; clear n0_ n1_ n2_ n3_ n4_; (try clear hb); (try clear hb2); (try clear hk); (try clear hi); (try clear ho0)) | ((with_reducible refine gate_dst (N := 9) rfl ?_); refine bx (N := 9) (cs := #[.slice none 0 0, .int .i64 0]) (t := 32) ?_; intro gb476 hg w110 hbox hb; have n0_ := Aside0.mk (Kd.R_below (kr HO474.out) hb); have n1_ := Aside0.mk (blk_below (g := gb469) (o := .cells #[.slice A0_0 l0_0.length c0_0] 29 (0, 0)) (kb BK469.out) hb); have n2_ := Aside0.mk (blk_below (g := gb470) (o := .cells #[.slice A1_0 l1_0.length c1_0, .int .i64 a1_1] 32 (0, 0)) (kb BK470.out) hb); have n3_ := Aside0.mk (blk_below (g := gb471) (o := .cells #[.slice none 0 0, .int .i64 0] 32 (0, 0)) (kb BK471.out) hb); have n4_ := Aside0.mk (below_step (bw HB.out) hb); have n5_ := Aside0.mk (hbox); have n6_ := Aside0.mk ((gs hg (bw HB.out))); have n7_ := Aside0.mk ((gs hg (bw HB.out))); have n8_ := Aside0.mk ((ga hg BK469.out)); have n9_ := Aside0.mk ((gc hg BK469.out)); have n10_ := Aside0.mk ((ga hg BK470.out)); have n11_ := Aside0.mk ((gc hg BK470.out)); have n12_ := Aside0.mk ((ga hg BK471.out)); have n13_ := Aside0.mk ((gc hg BK471.out)); clear HO474; clear BK469; clear BK470; clear BK471; clear HB; have HO474 := n0_; have BK469 := n1_; have BK470 := n2_; have BK471 := n3_; have HB := n4_; have BK476 := n5_; have GW476 := n6_; have GE476 := n7_; have NB469_476 := n8_; have NB476_469 := n9_; have NB470_476 := n10_; have NB476_470 := n11_; have NB471_476 := n12_; have NB476_471 := n13_; clear n0_ n1_ n2_ n3_ n4_ n5_ n6_ n7_ n8_ n9_ n10_ n11_ n12_ n13_; clear hb hbox hg; obtain ⟨Ao111, co111, eo111⟩ := Kd.R_slice HO474.out; subst eo111; have hnb112 := NB476_469.out; have hnc112 := NB469_476.out; have hnb113 := NB476_470.out; have hnc113 := NB470_476.out; have hnb114 := NB476_471.out; have hnc114 := NB471_476.out; have hcz115_0 : w110.cell? ⟨gb476, 0, none⟩ = some (.slice none 0 0) := (blk_cell BK476.out 0).trans rfl; have hcz115_1 : w110.cell? ⟨gb476, 1, none⟩ = some (.int .i64 0) := (blk_cell BK476.out 1).trans rfl; have hfz115_0 := blk_frozen BK476.out 0; have hfz115_1 := blk_frozen BK476.out 1; have hnb116 := NB469_471.out; have hnc116 := NB471_469.out; have hcz117_0 : w110.cell? ⟨gb469, 0, none⟩ = some (.slice A0_0 l0_0.length c0_0) := (blk_cell BK469.out 0).trans rfl; have hfz117_0 := blk_frozen BK469.out 0; have hcz118_0 : w110.cell? ⟨gb470, 0, none⟩ = some (.slice A1_0 l1_0.length c1_0) := (blk_cell BK470.out 0).trans rfl; have hcz118_1 : w110.cell? ⟨gb470, 1, none⟩ = some (.int .i64 a1_1) := (blk_cell BK470.out 1).trans rfl; have hfz118_0 := blk_frozen BK470.out 0; have hfz118_1 := blk_frozen BK470.out 1) | ((with_reducible refine gate_callee (f := 33) rfl ?_); refine goesM_ (some 16) rfl rfl Try.func33 #[.agg #[.slice A0_0 l0_0.length c0_0], .agg #[.slice A1_0 l1_0.length c1_0, .int .i64 a1_1]] ?_; (with_reducible refine (spec_MemOk.calls k _ _ l0_0 _ _ l1_0 a1_1 false _ ?side1 ?side2 ?side3 ?side4 A6.out).mono ?_); (case side1 => exact Kd.C_below HR0_0.out (bw HB.out)); (case side2 => exact HC0_0.out); (case side3 => exact Kd.C_below HR1_0.out (bw HB.out)); (case side4 => exact HC1_0.out); rintro e w119 ⟨rfl, hb⟩; refine ⟨_, rfl, ?_⟩; have n0_ := Aside0.mk (Kd.R_below (kr ((Kd.R_mono (Kd.R_far (p := ⟨gb476, 1, none⟩) (Kd.R_far (p := ⟨gb476, 0, none⟩) (Kd.R_types HO474.out BK476.out (by decide)) (fun _ hk => hk.2) (.slice Ao111 t472.length co111)) (fun _ hk => hk.2) (.int .i64 t475)) (fun _ h_ => h_.1)))) hb); have n1_ := Aside0.mk (blk_below (g := gb469) (o := .cells #[.slice A0_0 l0_0.length c0_0] 29 (0, 0)) (kf BK469.out) hb); have n2_ := Aside0.mk (blk_below (g := gb470) (o := .cells #[.slice A1_0 l1_0.length c1_0, .int .i64 a1_1] 32 (0, 0)) (kf BK470.out) hb); have n3_ := Aside0.mk (blk_below (g := gb471) (o := .cells #[.slice none 0 0, .int .i64 0] 32 (0, 0)) (kf BK471.out) hb); have n4_ := Aside0.mk (blk_below (g := gb476) (o := .cells #[.slice Ao111 t472.length co111, .int .i64 t475] 32 (0, 0)) (by (with_reducible repeat (first | refine blk_drewN ?_ _ | refine blk_drew ?_ | refine blk_alloc ?_ _)); refine blk_put (cs := #[.slice Ao111 t472.length co111, .int .i64 0]) ?_ 1 _ rfl; (with_reducible repeat (first | refine blk_drewN ?_ _ | refine blk_drew ?_ | refine blk_alloc ?_ _)); refine blk_put (cs := #[.slice none 0 0, .int .i64 0]) ?_ 0 _ rfl; (with_reducible repeat (first | refine blk_drewN ?_ _ | refine blk_drew ?_ | refine blk_alloc ?_ _)); exact BK476.out) hb); have n5_ := Aside0.mk (below_step (bw HB.out) hb); clear HO474; clear BK469; clear BK470; clear BK471; clear BK476; clear HB; have HO474 := n0_; have BK469 := n1_; have BK470 := n2_; have BK471 := n3_; have BK476 := n4_; have HB := n5_; clear n0_ n1_ n2_ n3_ n4_ n5_; (try clear hb); (try clear hb2); (try clear hk); (try clear hi); have hcz120_0 : w119.cell? ⟨gb476, 0, none⟩ = some (.slice Ao111 t472.length co111) := (blk_cell BK476.out 0).trans rfl; have hcz120_1 : w119.cell? ⟨gb476, 1, none⟩ = some (.int .i64 t475) := (blk_cell BK476.out 1).trans rfl; have hfz120_0 := blk_frozen BK476.out 0; have hfz120_1 := blk_frozen BK476.out 1; have hcz121_0 : w119.cell? ⟨gb471, 0, none⟩ = some (.slice none 0 0) := (blk_cell BK471.out 0).trans rfl; have hcz121_1 : w119.cell? ⟨gb471, 1, none⟩ = some (.int .i64 0) := (blk_cell BK471.out 1).trans rfl; have hfz121_0 := blk_frozen BK471.out 0; have hfz121_1 := blk_frozen BK471.out 1))
  refine bodyPost_ret (results_cell_row rfl _ _ gb471 32 #[.slice Ao111 t472.length co111, .int .i64 t475] (0, 0) _ rfl (by (with_reducible repeat (first | refine blk_drewN ?_ _ | refine blk_drew ?_ | refine blk_alloc ?_ _)); refine blk_put (cs := #[.slice Ao111 t472.length co111, .int .i64 0]) ?_ 1 _ rfl; (with_reducible repeat (first | refine blk_drewN ?_ _ | refine blk_drew ?_ | refine blk_alloc ?_ _)); refine blk_put (cs := #[.slice none 0 0, .int .i64 0]) ?_ 0 _ rfl; (with_reducible repeat (first | refine blk_drewN ?_ _ | refine blk_drew ?_ | refine blk_alloc ?_ _)); exact BK471.out) Try.underlying32 rfl (by kernel_rfl)) rfl ?_
  exact ⟨_, rt, kr (Kd.R_mono (Kd.R_far (p := ⟨gb471, 1, none⟩) (Kd.R_far (p := ⟨gb471, 0, none⟩) (Kd.R_types HO474.out BK471.out (by decide)) (fun _ hk => hk.2) (.slice Ao111 t472.length co111)) (fun _ hk => hk.2) (.int .i64 t475)) (fun _ hk => trivial)), bw HB.out⟩

end Go.Proofs.Ytmkccgbfgebfbaa.MFnMemory
