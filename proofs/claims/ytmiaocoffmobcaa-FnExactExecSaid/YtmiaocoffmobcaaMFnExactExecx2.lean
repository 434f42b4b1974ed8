/- Walks of functions that the law FnExactExec reaches: each comes to just what its Lean function says. (Begun as the texts that print.sh wrote for this claim; some of them, and those that it does not write, are mine.) No condition. -/
import Derived.Test.YtmiaocoffmobcaaMFnExactExecx1
namespace Go.Proofs.Ytmiaocoffmobcaa.MFnExactExec
open Go.RowKit Go.Proofs.YtmiaocoffmobcaaW.PrintWords Go.Proofs.YtmiaocoffmobcaaW.PrintLast Go.Proofs.YtmiaocoffmobcaaW.PrintMore
attribute [local go_sem] max2_int min2_int max_two min_two max_three min_three max_four min_four   -- for this text's walks alone
set_option linter.unusedVariables false
set_option linter.unusedSimpArgs false

/-! ### spec_Push: function 21 -/
def spec_Push.f (l0_0 : List Int) (a0_1 : Int) (a1_0 : Int) (a1_1 : Int) (a1_2 : Int) (a1_3 : Int) (a1_4 : Bool) (a1_5 : Bool) (a1_6 : Bool) (a1_7 : Bool) (a2 : Int) : Option (List Int × Int × Int × Int × Int × Int × Bool × Bool × Bool × Bool) := (spec_l6Copy.f l0_0 a0_1).bind fun bt143 => (if (l0_0.length : Int) = 512 then ((spec_Byte.f a1_2).bind fun t148 => ((spec_Byte.f a2).bind fun t149 => (if 0 ≤ (wrap64 (256 + t148)) then (if (wrap64 (256 + t148)) < (bt143.1.length : Int) then ((spec_Byte.f (wrap64 (a1_2 - 1))).bind fun t151 => (some ((bt143.1.set ((wrap64 (256 + t148)) : Int).toNat t149), bt143.2, a1_0, a1_1, t151, a1_3, a1_4, a1_5, a1_6, a1_7))) else (none)) else (none)))) else (some (bt143.1, bt143.2, a1_0, a1_1, a1_2, a1_3, a1_4, a1_5, a1_6, a1_7)))
def spec_Push.T4 : Bool × List (List Nat × List Nat) := (true, [([], []), ([0], [0]), ([], []), ([2], [2]), ([3], [3]), ([4], [4]), ([], []), ([6, 4], [6]), ([1, 5, 0, 1, 2, 3, 4, 5, 6, 7], [1, 5]), ([8, 7, 7, 0, 1, 2, 3, 4, 5, 6, 7], [7, 8])])
def spec_Push.B4 : List Nat := [0, 1, 0, 4, 12, 28, 0, 92, 255, 511]
theorem spec_Push.tab4 : rtab .any (opsOf Try.f21 4) = spec_Push.T4 := by kernel_rfl
theorem spec_Push.bits4 : waitsOk spec_Push.T4.2 spec_Push.B4 = true := by kernel_rfl
set_option maxHeartbeats 8000000 in
set_option maxRecDepth 100000 in
theorem spec_Push.calls (A0_0 : Option Addr) (c0_0 : Nat) (l0_0 : List Int) (a0_1 : Int) (a1_0 : Int) (a1_1 : Int) (a1_2 : Int) (a1_3 : Int) (a1_4 : Bool) (a1_5 : Bool) (a1_6 : Bool) (a1_7 : Bool) (a2 : Int) (r1 : List Int) (r2 : Int) (r3 : Int) (r4 : Int) (r5 : Int) (r6 : Int) (r7 : Bool) (r8 : Bool) (r9 : Bool) (r10 : Bool) (w : World) (hr0_0 : Kd.C (Kd.int .i64) w A0_0 l0_0.length l0_0) (hc0_0 : l0_0.length ≤ c0_0) (h : spec_Push.f l0_0 a0_1 a1_0 a1_1 a1_2 a1_3 a1_4 a1_5 a1_6 a1_7 a2 = some (r1, r2, r3, r4, r5, r6, r7, r8, r9, r10)) :
  Calls Try.prog 21 #[.agg #[.slice A0_0 l0_0.length c0_0, .int .i64 a0_1], .agg #[.int .i64 a1_0, .int .i64 a1_1, .int .i64 a1_2, .int .i64 a1_3, .bool a1_4, .bool a1_5, .bool a1_6, .bool a1_7], .int .i64 a2] w fun e w' => ∃ v0_ : Value, e = .returned (.tuple #[.agg #[v0_, .int .i64 r2], .agg #[.int .i64 r3, .int .i64 r4, .int .i64 r5, .int .i64 r6, .bool r7, .bool r8, .bool r9, .bool r10]]) ∧ Kd.R (Kd.int .i64) 3 w' w.heap.size (fun _ => True) v0_ r1 ∧ Below w.heap.size w w' := by
 have hu37 := Try.underlying37
 have hu38 := Try.underlying38
 have HR0_0 := Aside0.mk hr0_0
 have HC0_0 := Aside0.mk hc0_0
 clear hr0_0 hc0_0
 have HB := Aside0.mk (Below.refl w.heap.size w)
 have H : ((spec_l6Copy.f l0_0 a0_1).bind fun bt143 => (if (l0_0.length : Int) = 512 then ((spec_Byte.f a1_2).bind fun t148 => ((spec_Byte.f a2).bind fun t149 => (if 0 ≤ (wrap64 (256 + t148)) then (if (wrap64 (256 + t148)) < (bt143.1.length : Int) then ((spec_Byte.f (wrap64 (a1_2 - 1))).bind fun t151 => (some ((bt143.1.set ((wrap64 (256 + t148)) : Int).toNat t149), bt143.2, a1_0, a1_1, t151, a1_3, a1_4, a1_5, a1_6, a1_7))) else (none)) else (none)))) else (some (bt143.1, bt143.2, a1_0, a1_1, a1_2, a1_3, a1_4, a1_5, a1_6, a1_7)))) = some (r1, r2, r3, r4, r5, r6, r7, r8, r9, r10) := h
 clear h
 replace H := Option.bind_eq_some_iff.mp H
 obtain ⟨⟨t143, t146⟩, A40, H⟩ := H
 replace H : (if (l0_0.length : Int) = 512 then ((spec_Byte.f a1_2).bind fun t148 => ((spec_Byte.f a2).bind fun t149 => (if 0 ≤ (wrap64 (256 + t148)) then (if (wrap64 (256 + t148)) < (t143.length : Int) then ((spec_Byte.f (wrap64 (a1_2 - 1))).bind fun t151 => (some ((t143.set ((wrap64 (256 + t148)) : Int).toNat t149), t146, a1_0, a1_1, t151, a1_3, a1_4, a1_5, a1_6, a1_7))) else (none)) else (none)))) else (some (t143, t146, a1_0, a1_1, a1_2, a1_3, a1_4, a1_5, a1_6, a1_7))) = some (r1, r2, r3, r4, r5, r6, r7, r8, r9, r10) := H
 have A4 := Aside0.mk A40
 clear A40
 by_cases c5 : (l0_0.length : Int) = 512
 ·rw [if_pos c5] at H
  have c5b0 : ((l0_0.length : Int) == 512) = true := beq_iff_eq.mpr c5
  have c5b1 : ((l0_0.length : Int) != 512) = false := bne_eq_false_iff_eq.mpr c5
  clear c5
  replace H := Option.bind_eq_some_iff.mp H
  obtain ⟨t148, A60, H⟩ := H
  replace H : ((spec_Byte.f a2).bind fun t149 => (if 0 ≤ (wrap64 (256 + t148)) then (if (wrap64 (256 + t148)) < (t143.length : Int) then ((spec_Byte.f (wrap64 (a1_2 - 1))).bind fun t151 => (some ((t143.set ((wrap64 (256 + t148)) : Int).toNat t149), t146, a1_0, a1_1, t151, a1_3, a1_4, a1_5, a1_6, a1_7))) else (none)) else (none))) = some (r1, r2, r3, r4, r5, r6, r7, r8, r9, r10) := H
  have A6 := Aside0.mk A60
  clear A60
  replace H := Option.bind_eq_some_iff.mp H
  obtain ⟨t149, A70, H⟩ := H
  replace H : (if 0 ≤ (wrap64 (256 + t148)) then (if (wrap64 (256 + t148)) < (t143.length : Int) then ((spec_Byte.f (wrap64 (a1_2 - 1))).bind fun t151 => (some ((t143.set ((wrap64 (256 + t148)) : Int).toNat t149), t146, a1_0, a1_1, t151, a1_3, a1_4, a1_5, a1_6, a1_7))) else (none)) else (none)) = some (r1, r2, r3, r4, r5, r6, r7, r8, r9, r10) := H
  have A7 := Aside0.mk A70
  clear A70
  obtain ⟨ji8, hji8⟩ : ∃ j_ : Int, (wrap64 (256 + t148)) = j_ := ⟨_, rfl⟩
  replace H : (if 0 ≤ (ji8) then (if (ji8) < (t143.length : Int) then ((spec_Byte.f (wrap64 (a1_2 - 1))).bind fun t151 => (some ((t143.set ((ji8) : Int).toNat t149), t146, a1_0, a1_1, t151, a1_3, a1_4, a1_5, a1_6, a1_7))) else (none)) else (none)) = some (r1, r2, r3, r4, r5, r6, r7, r8, r9, r10) := by first | (rw [hji8] at H; exact H) | (simp only [hji8] at H ⊢; exact H)
  (try rw [hji8] at A4)
  (try rw [hji8] at A6)
  (try rw [hji8] at A7)
  have hji8w : (IntKind.i64.wrap (256 + t148)) = ji8 := (i64_w _).trans hji8
  by_cases c9 : 0 ≤ (ji8)
  ·rw [if_pos c9] at H
   have c9b0 : decide (0 ≤ (ji8)) = true := decide_eq_true c9
   clear c9
   by_cases c10 : (ji8) < (t143.length : Int)
   ·rw [if_pos c10] at H
    have c10b0 : decide ((ji8) < (t143.length : Int)) = true := decide_eq_true c10
    clear c10
    obtain ⟨y150, hy150⟩ : ∃ y_ : List Int, y_ = (t143.set ((ji8) : Int).toNat t149) := ⟨_, rfl⟩
    replace H : ((spec_Byte.f (wrap64 (a1_2 - 1))).bind fun t151 => (some (y150, t146, a1_0, a1_1, t151, a1_3, a1_4, a1_5, a1_6, a1_7))) = some (r1, r2, r3, r4, r5, r6, r7, r8, r9, r10) := by first | (rw [hy150]; with_reducible exact H) | (have H2_ := (Option.bind_some _ _).symm.trans H; rw [hy150]; with_reducible exact H2_) | (have H2_ := (Option.bind_some _ _).symm.trans H; with_reducible exact H2_) | with_reducible exact H | (rw [hy150]; exact H) | exact H
    have Ny150 := Aside0.mk hy150
    clear hy150
    replace H := Option.bind_eq_some_iff.mp H
    obtain ⟨t151, A120, H⟩ := H
    replace H : (some (y150, t146, a1_0, a1_1, t151, a1_3, a1_4, a1_5, a1_6, a1_7)) = some (r1, r2, r3, r4, r5, r6, r7, r8, r9, r10) := H
    have A12 := Aside0.mk A120
    clear A120
    simp only [Option.some.injEq, Prod.mk.injEq] at H
    obtain ⟨rfl, rfl, rfl, rfl, rfl, rfl, rfl, rfl, rfl, rfl⟩ := H
    go_enter Try.func21, Try.ntmps21
    try go_wp2_with (first | ((with_reducible refine gate_dst (N := 3) rfl ?_); refine bx (N := 3) (cs := #[.slice A0_0 l0_0.length c0_0, .int .i64 a0_1]) (t := 37) ?_; intro gb139 hg w13 hbox hb; have n0_ := Aside0.mk (below_step (bw HB.out) hb); have n1_ := Aside0.mk (hbox); have n2_ := Aside0.mk ((gs hg (bw HB.out))); have n3_ := Aside0.mk ((gs hg (bw HB.out))); clear HB; have HB := n0_; have BK139 := n1_; have GW139 := n2_; have GE139 := n3_; clear n0_ n1_ n2_ n3_; clear hb hbox hg) | ((with_reducible refine gate_dst (N := 4) rfl ?_); refine bx (N := 4) (cs := #[.int .i64 a1_0, .int .i64 a1_1, .int .i64 a1_2, .int .i64 a1_3, .bool a1_4, .bool a1_5, .bool a1_6, .bool a1_7]) (t := 38) ?_; intro gb140 hg w14 hbox hb; have n0_ := Aside0.mk (blk_below (g := gb139) (o := .cells #[.slice A0_0 l0_0.length c0_0, .int .i64 a0_1] 37 (0, 0)) (kb BK139.out) hb); have n1_ := Aside0.mk (below_step (bw HB.out) hb); have n2_ := Aside0.mk (hbox); have n3_ := Aside0.mk ((gs hg (bw HB.out))); have n4_ := Aside0.mk ((gs hg (bw HB.out))); have n5_ := Aside0.mk ((ga hg BK139.out)); have n6_ := Aside0.mk ((gc hg BK139.out)); clear BK139; clear HB; have BK139 := n0_; have HB := n1_; have BK140 := n2_; have GW140 := n3_; have GE140 := n4_; have NB139_140 := n5_; have NB140_139 := n6_; clear n0_ n1_ n2_ n3_ n4_ n5_ n6_; clear hb hbox hg) | ((with_reducible refine gate_dst (N := 6) rfl ?_); refine bx (N := 6) (cs := #[.slice none 0 0, .int .i64 0]) (t := 37) ?_; intro gb141 hg w15 hbox hb; have n0_ := Aside0.mk (blk_below (g := gb139) (o := .cells #[.slice A0_0 l0_0.length c0_0, .int .i64 a0_1] 37 (0, 0)) (kb BK139.out) hb); have n1_ := Aside0.mk (blk_below (g := gb140) (o := .cells #[.int .i64 a1_0, .int .i64 a1_1, .int .i64 a1_2, .int .i64 a1_3, .bool a1_4, .bool a1_5, .bool a1_6, .bool a1_7] 38 (0, 0)) (kb BK140.out) hb); have n2_ := Aside0.mk (below_step (bw HB.out) hb); have n3_ := Aside0.mk (hbox); have n4_ := Aside0.mk ((gs hg (bw HB.out))); have n5_ := Aside0.mk ((gs hg (bw HB.out))); have n6_ := Aside0.mk ((ga hg BK139.out)); have n7_ := Aside0.mk ((gc hg BK139.out)); have n8_ := Aside0.mk ((ga hg BK140.out)); have n9_ := Aside0.mk ((gc hg BK140.out)); clear BK139; clear BK140; clear HB; have BK139 := n0_; have BK140 := n1_; have HB := n2_; have BK141 := n3_; have GW141 := n4_; have GE141 := n5_; have NB139_141 := n6_; have NB141_139 := n7_; have NB140_141 := n8_; have NB141_140 := n9_; clear n0_ n1_ n2_ n3_ n4_ n5_ n6_ n7_ n8_ n9_; clear hb hbox hg) | ((with_reducible refine gate_dst (N := 7) rfl ?_); refine bx (N := 7) (cs := #[.int .i64 0, .int .i64 0, .int .i64 0, .int .i64 0, .bool false, .bool false, .bool false, .bool false]) (t := 38) ?_; intro gb142 hg w16 hbox hb; have n0_ := Aside0.mk (blk_below (g := gb139) (o := .cells #[.slice A0_0 l0_0.length c0_0, .int .i64 a0_1] 37 (0, 0)) (kb BK139.out) hb); have n1_ := Aside0.mk (blk_below (g := gb140) (o := .cells #[.int .i64 a1_0, .int .i64 a1_1, .int .i64 a1_2, .int .i64 a1_3, .bool a1_4, .bool a1_5, .bool a1_6, .bool a1_7] 38 (0, 0)) (kb BK140.out) hb); have n2_ := Aside0.mk (blk_below (g := gb141) (o := .cells #[.slice none 0 0, .int .i64 0] 37 (0, 0)) (kb BK141.out) hb); have n3_ := Aside0.mk (below_step (bw HB.out) hb); have n4_ := Aside0.mk (hbox); have n5_ := Aside0.mk ((gs hg (bw HB.out))); have n6_ := Aside0.mk ((gs hg (bw HB.out))); have n7_ := Aside0.mk ((ga hg BK139.out)); have n8_ := Aside0.mk ((gc hg BK139.out)); have n9_ := Aside0.mk ((ga hg BK140.out)); have n10_ := Aside0.mk ((gc hg BK140.out)); have n11_ := Aside0.mk ((ga hg BK141.out)); have n12_ := Aside0.mk ((gc hg BK141.out)); clear BK139; clear BK140; clear BK141; clear HB; have BK139 := n0_; have BK140 := n1_; have BK141 := n2_; have HB := n3_; have BK142 := n4_; have GW142 := n5_; have GE142 := n6_; have NB139_142 := n7_; have NB142_139 := n8_; have NB140_142 := n9_; have NB142_140 := n10_; have NB141_142 := n11_; have NB142_141 := n12_; clear n0_ n1_ n2_ n3_ n4_ n5_ n6_ n7_ n8_ n9_ n10_ n11_ n12_; clear hb hbox hg; have hnb17 := NB139_140.out; have hnc17 := NB140_139.out; have hnb18 := NB139_141.out; have hnc18 := NB141_139.out; have hnb19 := NB139_142.out; have hnc19 := NB142_139.out; have hcz20_0 : w16.cell? ⟨gb139, 0, none⟩ = some (.slice A0_0 l0_0.length c0_0) := (blk_cell BK139.out 0).trans rfl; have hcz20_1 : w16.cell? ⟨gb139, 1, none⟩ = some (.int .i64 a0_1) := (blk_cell BK139.out 1).trans rfl; have hfz20_0 := blk_frozen BK139.out 0; have hfz20_1 := blk_frozen BK139.out 1) | ((with_reducible refine gate_callee (f := 67) rfl ?_); refine goesM_ (some 10) rfl rfl Try.func67 #[.agg #[.slice A0_0 l0_0.length c0_0, .int .i64 a0_1]] ?_; (with_reducible refine (spec_l6Copy.calls _ _ l0_0 a0_1 t143 t146 _ ?side1 ?side2 A4.out).mono ?_); (case side1 => exact kc (Kd.C_below HR0_0.out HB.out)); (case side2 => exact HC0_0.out); rintro e w21 ⟨v144, rfl, ho0, hb⟩; refine ⟨_, rfl, ?_⟩; have n0_ := Aside0.mk (Kd.R_lower ho0 (below_size (bw HB.out))); have n1_ := Aside0.mk (blk_below (g := gb139) (o := .cells #[.slice A0_0 l0_0.length c0_0, .int .i64 a0_1] 37 (0, 0)) (kb BK139.out) hb); have n2_ := Aside0.mk (blk_below (g := gb140) (o := .cells #[.int .i64 a1_0, .int .i64 a1_1, .int .i64 a1_2, .int .i64 a1_3, .bool a1_4, .bool a1_5, .bool a1_6, .bool a1_7] 38 (0, 0)) (kb BK140.out) hb); have n3_ := Aside0.mk (blk_below (g := gb141) (o := .cells #[.slice none 0 0, .int .i64 0] 37 (0, 0)) (kb BK141.out) hb); have n4_ := Aside0.mk (blk_below (g := gb142) (o := .cells #[.int .i64 0, .int .i64 0, .int .i64 0, .int .i64 0, .bool false, .bool false, .bool false, .bool false] 38 (0, 0)) (kb BK142.out) hb); have n5_ := Aside0.mk (below_step (bw HB.out) hb); clear BK139; clear BK140; clear BK141; clear BK142; clear HB; have HO145 := n0_; have BK139 := n1_; have BK140 := n2_; have BK141 := n3_; have BK142 := n4_; have HB := n5_; clear n0_ n1_ n2_ n3_ n4_ n5_; (try clear hb); (try clear hb2); (try clear hk); (try clear hi); (try clear ho0)) | ((with_reducible refine gate_dst (N := 8) rfl ?_); refine bx (N := 8) (cs := #[.slice none 0 0, .int .i64 0]) (t := 37) ?_; intro gb147 hg w22 hbox hb; have n0_ := Aside0.mk (Kd.R_below (kr HO145.out) hb); have n1_ := Aside0.mk (blk_below (g := gb139) (o := .cells #[.slice A0_0 l0_0.length c0_0, .int .i64 a0_1] 37 (0, 0)) (kb BK139.out) hb); have n2_ := Aside0.mk (blk_below (g := gb140) (o := .cells #[.int .i64 a1_0, .int .i64 a1_1, .int .i64 a1_2, .int .i64 a1_3, .bool a1_4, .bool a1_5, .bool a1_6, .bool a1_7] 38 (0, 0)) (kb BK140.out) hb); have n3_ := Aside0.mk (blk_below (g := gb141) (o := .cells #[.slice none 0 0, .int .i64 0] 37 (0, 0)) (kb BK141.out) hb); have n4_ := Aside0.mk (blk_below (g := gb142) (o := .cells #[.int .i64 0, .int .i64 0, .int .i64 0, .int .i64 0, .bool false, .bool false, .bool false, .bool false] 38 (0, 0)) (kb BK142.out) hb); have n5_ := Aside0.mk (below_step (bw HB.out) hb); have n6_ := Aside0.mk (hbox); have n7_ := Aside0.mk ((gs hg (bw HB.out))); have n8_ := Aside0.mk ((gs hg (bw HB.out))); have n9_ := Aside0.mk ((ga hg BK139.out)); have n10_ := Aside0.mk ((gc hg BK139.out)); have n11_ := Aside0.mk ((ga hg BK140.out)); have n12_ := Aside0.mk ((gc hg BK140.out)); have n13_ := Aside0.mk ((ga hg BK141.out)); have n14_ := Aside0.mk ((gc hg BK141.out)); have n15_ := Aside0.mk ((ga hg BK142.out)); have n16_ := Aside0.mk ((gc hg BK142.out)); clear HO145; clear BK139; clear BK140; clear BK141; clear BK142; clear HB; have HO145 := n0_; have BK139 := n1_; have BK140 := n2_; have BK141 := n3_; have BK142 := n4_; have HB := n5_; have BK147 := n6_; have GW147 := n7_; have GE147 := n8_; have NB139_147 := n9_; have NB147_139 := n10_; have NB140_147 := n11_; have NB147_140 := n12_; have NB141_147 := n13_; have NB147_141 := n14_; have NB142_147 := n15_; have NB147_142 := n16_; clear n0_ n1_ n2_ n3_ n4_ n5_ n6_ n7_ n8_ n9_ n10_ n11_ n12_ n13_ n14_ n15_ n16_; clear hb hbox hg; obtain ⟨Ao23, co23, eo23⟩ := Kd.R_slice HO145.out; subst eo23; have hnb24 := NB147_139.out; have hnc24 := NB139_147.out; have hnb25 := NB147_140.out; have hnc25 := NB140_147.out; have hnb26 := NB147_141.out; have hnc26 := NB141_147.out; have hnb27 := NB147_142.out; have hnc27 := NB142_147.out; have hcz28_0 : w22.cell? ⟨gb147, 0, none⟩ = some (.slice none 0 0) := (blk_cell BK147.out 0).trans rfl; have hcz28_1 : w22.cell? ⟨gb147, 1, none⟩ = some (.int .i64 0) := (blk_cell BK147.out 1).trans rfl; have hfz28_0 := blk_frozen BK147.out 0; have hfz28_1 := blk_frozen BK147.out 1; have hcz29_0 : w22.cell? ⟨gb139, 0, none⟩ = some (.slice A0_0 l0_0.length c0_0) := (blk_cell BK139.out 0).trans rfl; have hcz29_1 : w22.cell? ⟨gb139, 1, none⟩ = some (.int .i64 a0_1) := (blk_cell BK139.out 1).trans rfl; have hfz29_0 := blk_frozen BK139.out 0; have hfz29_1 := blk_frozen BK139.out 1))
    have n0_ : Aside0 (Kd.R (Kd.int .i64) 3 ((w22.setCell ⟨gb147, 0, none⟩ (.slice Ao23 t143.length co23)).setCell ⟨gb147, 1, none⟩ (.int .i64 t146)) w.heap.size (fun _ => True) (.slice Ao23 t143.length co23) t143) := ⟨kr (Kd.R_mono (Kd.R_far (p := ⟨gb147, 1, none⟩) (Kd.R_far (p := ⟨gb147, 0, none⟩) (Kd.R_types HO145.out BK147.out (by decide)) (fun _ hk => hk.2) (.slice Ao23 t143.length co23)) (fun _ hk => hk.2) (.int .i64 t146)) (fun _ hk => trivial))⟩
    have n1_ : Aside0 (((w22.setCell ⟨gb147, 0, none⟩ (.slice Ao23 t143.length co23)).setCell ⟨gb147, 1, none⟩ (.int .i64 t146)).heap[gb139]? = some (.cells #[.slice A0_0 l0_0.length c0_0, .int .i64 a0_1] 37 (0, 0))) := ⟨kf BK139.out⟩
    have n2_ : Aside0 (((w22.setCell ⟨gb147, 0, none⟩ (.slice Ao23 t143.length co23)).setCell ⟨gb147, 1, none⟩ (.int .i64 t146)).heap[gb140]? = some (.cells #[.int .i64 a1_0, .int .i64 a1_1, .int .i64 a1_2, .int .i64 a1_3, .bool a1_4, .bool a1_5, .bool a1_6, .bool a1_7] 38 (0, 0))) := ⟨kf BK140.out⟩
    have n3_ : Aside0 (((w22.setCell ⟨gb147, 0, none⟩ (.slice Ao23 t143.length co23)).setCell ⟨gb147, 1, none⟩ (.int .i64 t146)).heap[gb141]? = some (.cells #[.slice none 0 0, .int .i64 0] 37 (0, 0))) := ⟨kf BK141.out⟩
    have n4_ : Aside0 (((w22.setCell ⟨gb147, 0, none⟩ (.slice Ao23 t143.length co23)).setCell ⟨gb147, 1, none⟩ (.int .i64 t146)).heap[gb142]? = some (.cells #[.int .i64 0, .int .i64 0, .int .i64 0, .int .i64 0, .bool false, .bool false, .bool false, .bool false] 38 (0, 0))) := ⟨kf BK142.out⟩
    have n5_ : Aside0 (((w22.setCell ⟨gb147, 0, none⟩ (.slice Ao23 t143.length co23)).setCell ⟨gb147, 1, none⟩ (.int .i64 t146)).heap[gb147]? = some (.cells #[.slice Ao23 t143.length co23, .int .i64 t146] 37 (0, 0))) := ⟨by (with_reducible repeat (first | refine blk_drewN ?_ _ | refine blk_drew ?_ | refine blk_alloc ?_ _)); refine blk_put (cs := #[.slice Ao23 t143.length co23, .int .i64 0]) ?_ 1 _ rfl; (with_reducible repeat (first | refine blk_drewN ?_ _ | refine blk_drew ?_ | refine blk_alloc ?_ _)); refine blk_put (cs := #[.slice none 0 0, .int .i64 0]) ?_ 0 _ rfl; (with_reducible repeat (first | refine blk_drewN ?_ _ | refine blk_drew ?_ | refine blk_alloc ?_ _)); exact BK147.out⟩
    have n6_ : Aside0 (Below w.heap.size w ((w22.setCell ⟨gb147, 0, none⟩ (.slice Ao23 t143.length co23)).setCell ⟨gb147, 1, none⟩ (.int .i64 t146))) := ⟨bw HB.out⟩
    (try clear HO145); (try clear BK139); (try clear BK140); (try clear BK141); (try clear BK142); (try clear BK147); (try clear HB)
    generalize ((w22.setCell ⟨gb147, 0, none⟩ (.slice Ao23 t143.length co23)).setCell ⟨gb147, 1, none⟩ (.int .i64 t146)) = w30 at n0_ n1_ n2_ n3_ n4_ n5_ n6_ ⊢
    have HO145 := n0_; have BK139 := n1_; have BK140 := n2_; have BK141 := n3_; have BK142 := n4_; have BK147 := n5_; have HB := n6_; clear n0_ n1_ n2_ n3_ n4_ n5_ n6_
    have n0_ := Aside0.mk (Kd.R_drew HO145.out)
    have n1_ := Aside0.mk (blk_drew BK139.out)
    have n2_ := Aside0.mk (blk_drew BK140.out)
    have n3_ := Aside0.mk (blk_drew BK141.out)
    have n4_ := Aside0.mk (blk_drew BK142.out)
    have n5_ := Aside0.mk (blk_drew BK147.out)
    have n6_ := Aside0.mk (below_drew1 HB.out)
    clear HO145; clear BK139; clear BK140; clear BK141; clear BK142; clear BK147; clear HB; have HO145 := n0_; have BK139 := n1_; have BK140 := n2_; have BK141 := n3_; have BK142 := n4_; have BK147 := n5_; have HB := n6_; clear n0_ n1_ n2_ n3_ n4_ n5_ n6_
    refine start_ (n := 10) (S := fun w' => w'.cell? ⟨gb147, 0, none⟩ = some (.slice Ao23 t143.length co23) ∧ w'.cell? ⟨gb147, 1, none⟩ = some (.int .i64 t146) ∧ w'.cell? ⟨gb140, 0, none⟩ = some (.int .i64 a1_0) ∧ w'.cell? ⟨gb140, 1, none⟩ = some (.int .i64 a1_1) ∧ w'.cell? ⟨gb140, 2, none⟩ = some (.int .i64 a1_2) ∧ w'.cell? ⟨gb140, 3, none⟩ = some (.int .i64 a1_3) ∧ w'.cell? ⟨gb140, 4, none⟩ = some (.bool a1_4) ∧ w'.cell? ⟨gb140, 5, none⟩ = some (.bool a1_5) ∧ w'.cell? ⟨gb140, 6, none⟩ = some (.bool a1_6) ∧ w'.cell? ⟨gb140, 7, none⟩ = some (.bool a1_7)) (ds := [9]) #[false, false, false, false, false, false, false, false, false, false] (by kernel_rfl) rfl rfl ⟨(blk_cell BK147.out 0).trans rfl, (blk_cell BK147.out 1).trans rfl, (blk_cell BK140.out 0).trans rfl, (blk_cell BK140.out 1).trans rfl, (blk_cell BK140.out 2).trans rfl, (blk_cell BK140.out 3).trans rfl, (blk_cell BK140.out 4).trans rfl, (blk_cell BK140.out 5).trans rfl, (blk_cell BK140.out 6).trans rfl, (blk_cell BK140.out 7).trans rfl⟩ (fun hHeld => ?_); refine with_tabW spec_Push.tab4 spec_Push.bits4 (fun HT_ HW_ => ?_)
    generalize w30.drew = w31 at HO145 BK139 BK140 BK141 BK142 BK147 HB hHeld ⊢
    refine pure_ (i := 0) (N := some 17) (v := ?_) (a' := ?_) #[true, false, false, false, false, false, false, false, false, false] rfl rfl (any_of HT_.out (by kernel_rfl)) (fun _ _ _ h => h) (Or.inl ⟨by rfl, ?_⟩) ?_ ?_
    rotate_left
    ·intro w'
     go_simp
     with_reducible rfl
    rotate_left
    ·simp only [Act.put, List.setIfInBounds_toArray, List.set_cons_zero, List.set_cons_succ, i64_w, i32_w]
     rfl
    refine pure_ (i := 2) (N := some 19) (v := ?_) (a' := ?_) #[true, false, true, false, false, false, false, false, false, false] rfl rfl (any_of HT_.out (by kernel_rfl)) (fun _ _ _ h => h) (Or.inl ⟨by rfl, ?_⟩) ?_ ?_
    rotate_left
    ·intro w'
     go_simp
     with_reducible rfl
    rotate_left
    ·simp only [Act.put, List.setIfInBounds_toArray, List.set_cons_zero, List.set_cons_succ, i64_w, i32_w]
     rfl
    refine pure_ (i := 6) (N := some 23) (v := ?_) (a' := ?_) #[true, false, true, false, false, false, true, false, false, false] rfl rfl (any_of HT_.out (by kernel_rfl)) (fun _ _ _ h => h) (Or.inl ⟨by rfl, ?_⟩) ?_ ?_
    rotate_left
    ·intro w'
     go_simp
     with_reducible rfl
    rotate_left
    ·simp only [Act.put, List.setIfInBounds_toArray, List.set_cons_zero, List.set_cons_succ, i64_w, i32_w]
     rfl
    refine take_ (i := 1) (N := some 18) (v := ?_) (a' := ?_) #[true, true, true, false, false, false, true, false, false, false] rfl rfl (take_ofW HT_.out HW_.out (by kernel_rfl)) (fun _ _ _ h => h) (Or.inl ⟨by rfl, ?_⟩) hHeld ?_ ?_
    rotate_left
    ·rintro w' ⟨s0, s1, s2, s3, s4, s5, s6, s7, s8, s9⟩
     go_simp
     with_reducible rfl
    rotate_left
    ·simp only [Act.put, List.setIfInBounds_toArray, List.set_cons_zero, List.set_cons_succ, i64_w, i32_w]
     rfl
    refine take_ (i := 3) (N := some 20) (v := ?_) (a' := ?_) #[true, true, true, true, false, false, true, false, false, false] rfl rfl (take_ofW HT_.out HW_.out (by kernel_rfl)) (fun _ _ _ h => h) (Or.inl ⟨by rfl, ?_⟩) hHeld ?_ ?_
    rotate_left
    ·rintro w' ⟨s0, s1, s2, s3, s4, s5, s6, s7, s8, s9⟩
     go_simp
     with_reducible rfl
    rotate_left
    ·simp only [Act.put, List.setIfInBounds_toArray, List.set_cons_zero, List.set_cons_succ, i64_w, i32_w]
     rfl
    refine one_ (i := 4) (N := some 21) #[true, true, true, true, true, false, true, false, false, false] rfl rfl (one_of HT_.out (by kernel_rfl)) (by decide) (fun K hK => ?_)
    refine goes_ Try.func68 (by kernel_rfl) rfl #[.int .i64 a1_2] (by rfl) rfl rfl (by (try simp only [List.map_toArray, List.map_cons, List.map_nil]); first | done | rfl | (simp only [List.length_drop, List.length_take]; rfl)) ?_
    with_reducible refine (spec_Byte.calls a1_2 t148 _ A6.out).mono ?_
    rintro e w' ⟨rfl, ⟨nd, rfl⟩⟩
    refine ⟨_, rfl, ?_⟩
    have n0_ := Aside0.mk (Kd.R_drewN HO145.out nd)
    have n1_ := Aside0.mk (blk_drewN BK139.out nd)
    have n2_ := Aside0.mk (blk_drewN BK140.out nd)
    have n3_ := Aside0.mk (blk_drewN BK141.out nd)
    have n4_ := Aside0.mk (blk_drewN BK142.out nd)
    have n5_ := Aside0.mk (blk_drewN BK147.out nd)
    have n6_ := Aside0.mk (pw_below_drewN HB.out nd)
    clear HO145; clear BK139; clear BK140; clear BK141; clear BK142; clear BK147; clear HB; have HO145 := n0_; have BK139 := n1_; have BK140 := n2_; have BK141 := n3_; have BK142 := n4_; have BK147 := n5_; have HB := n6_; clear n0_ n1_ n2_ n3_ n4_ n5_ n6_
    generalize w31.drewN nd = w31 at HO145 BK139 BK140 BK141 BK142 BK147 HB ⊢
    refine hK.out _ _ ⟨(blk_cell BK147.out 0).trans rfl, (blk_cell BK147.out 1).trans rfl, (blk_cell BK140.out 0).trans rfl, (blk_cell BK140.out 1).trans rfl, (blk_cell BK140.out 2).trans rfl, (blk_cell BK140.out 3).trans rfl, (blk_cell BK140.out 4).trans rfl, (blk_cell BK140.out 5).trans rfl, (blk_cell BK140.out 6).trans rfl, (blk_cell BK140.out 7).trans rfl⟩ (fun hHeld => ?_)
    clear hK K
    refine norm_ (a' := ?_) ?_ ?_
    rotate_left
    ·show Act.put _ (some 21) _ = _
     simp only [Act.put, List.setIfInBounds_toArray, List.set_cons_zero, List.set_cons_succ, i64_w, i32_w]
     rfl
    refine pure_ (i := 5) (N := some 22) (v := ?_) (a' := ?_) #[true, true, true, true, true, true, true, false, false, false] rfl rfl (any_of HT_.out (by kernel_rfl)) (fun _ _ _ h => h) (Or.inl ⟨by rfl, ?_⟩) ?_ ?_
    rotate_left
    ·intro w'
     go_simp
     with_reducible rfl
    rotate_left
    ·simp only [Act.put, List.setIfInBounds_toArray, List.set_cons_zero, List.set_cons_succ, i64_w, i32_w]
     rfl
    refine one_ (i := 7) (N := some 24) #[true, true, true, true, true, true, true, true, false, false] rfl rfl (one_of HT_.out (by kernel_rfl)) (by decide) (fun K hK => ?_)
    refine goes_ Try.func68 (by kernel_rfl) rfl #[.int .i64 a2] (by rfl) rfl rfl (by (try simp only [List.map_toArray, List.map_cons, List.map_nil]); first | done | rfl | (simp only [List.length_drop, List.length_take]; rfl)) ?_
    with_reducible refine (spec_Byte.calls a2 t149 _ A7.out).mono ?_
    rintro e w' ⟨rfl, ⟨nd, rfl⟩⟩
    refine ⟨_, rfl, ?_⟩
    have n0_ := Aside0.mk (Kd.R_drewN HO145.out nd)
    have n1_ := Aside0.mk (blk_drewN BK139.out nd)
    have n2_ := Aside0.mk (blk_drewN BK140.out nd)
    have n3_ := Aside0.mk (blk_drewN BK141.out nd)
    have n4_ := Aside0.mk (blk_drewN BK142.out nd)
    have n5_ := Aside0.mk (blk_drewN BK147.out nd)
    have n6_ := Aside0.mk (pw_below_drewN HB.out nd)
    clear HO145; clear BK139; clear BK140; clear BK141; clear BK142; clear BK147; clear HB; have HO145 := n0_; have BK139 := n1_; have BK140 := n2_; have BK141 := n3_; have BK142 := n4_; have BK147 := n5_; have HB := n6_; clear n0_ n1_ n2_ n3_ n4_ n5_ n6_
    generalize w31.drewN nd = w31 at HO145 BK139 BK140 BK141 BK142 BK147 HB ⊢
    have p11 : 0 ≤ ((ji8) : Int) := dt
    have q11 : ((ji8) : Int) < ((t143.length : Int) : Int) := dt
    obtain ⟨go11, co11, eo11, gb11, gl11, cl11, HG11⟩ := Kd.R_form HO145.out (by omega)
    (first | cases eo11 | (injection eo11 with ea_ en_ ec_; (first | subst ea_ | (injection ea_ with ea_; subst ea_)); subst ec_; clear en_))
    have GB11 := Aside0.mk gb11
    have GG11 := Aside0.mk HG11
    clear gb11 gl11 HG11
    obtain ⟨hx11_0, hf11_0⟩ := Kd.R_celln 0 HO145.out ((ji8) : Int) p11 q11
    replace p11 := eq_true p11
    replace q11 := eq_true q11
    have HP32 := Kd.R_putn HO145.out ((ji8) : Int) t149
    rw [← Ny150.out] at HP32
    have HQ32 := Aside0.mk HP32
    clear HP32
    refine hK.out _ _ ⟨(blk_cell BK147.out 0).trans rfl, (blk_cell BK147.out 1).trans rfl, (blk_cell BK140.out 0).trans rfl, (blk_cell BK140.out 1).trans rfl, (blk_cell BK140.out 2).trans rfl, (blk_cell BK140.out 3).trans rfl, (blk_cell BK140.out 4).trans rfl, (blk_cell BK140.out 5).trans rfl, (blk_cell BK140.out 6).trans rfl, (blk_cell BK140.out 7).trans rfl⟩ (fun hHeld => ?_)
    clear hK K
    refine norm_ (a' := ?_) ?_ ?_
    rotate_left
    ·show Act.put _ (some 24) _ = _
     simp only [Act.put, List.setIfInBounds_toArray, List.set_cons_zero, List.set_cons_succ, i64_w, i32_w]
     rfl
    refine pure_ (i := 8) (N := some 25) (v := ?_) (a' := ?_) #[true, true, true, true, true, true, true, true, true, false] rfl rfl (any_of HT_.out (by kernel_rfl)) (fun _ _ _ h => h) (Or.inl ⟨by rfl, ?_⟩) ?_ ?_
    rotate_left
    ·intro w'
     go_simp
     with_reducible rfl
    rotate_left
    ·simp only [Act.put, List.setIfInBounds_toArray, List.set_cons_zero, List.set_cons_succ, i64_w, i32_w]
     rfl
    refine last_ (i := 9) (N := none) #[true, true, true, true, true, true, true, true, true, true] rfl rfl (one_of HT_.out (by kernel_rfl)) (by decide) (fun K hK => ?_)
    refine skip_ (w1 := ?_) (by rfl) rfl ?_ ?_
    rotate_left
    ·go_simp
     rfl
    refine hK.out _ _ ?_
    clear hK K
    refine done_ (done_of HT_.out (by kernel_rfl)) ?_
    have n0_ : Aside0 (Kd.R (Kd.int .i64) 3 (w31.setCell ⟨go11, ((ji8) : Int).toNat, none⟩ (.int .i64 t149)) w.heap.size (fun _ => True) (.slice (some ⟨go11, 0, none⟩) t143.length co23) y150) := ⟨kr HQ32.out⟩
    have n1_ : Aside0 ((w31.setCell ⟨go11, ((ji8) : Int).toNat, none⟩ (.int .i64 t149)).heap[gb139]? = some (.cells #[.slice A0_0 l0_0.length c0_0, .int .i64 a0_1] 37 (0, 0))) := ⟨by (with_reducible repeat (first | refine blk_drewN ?_ _ | refine blk_drew ?_ | refine blk_alloc ?_ _)); refine blk_far ?_ (by have h_ := Kd.R_ne HO145.out BK139.out (by decide); intro e_; exact h_ (by rw [e_]; rfl)) _; (with_reducible repeat (first | refine blk_drewN ?_ _ | refine blk_drew ?_ | refine blk_alloc ?_ _)); exact BK139.out⟩
    have n2_ : Aside0 ((w31.setCell ⟨go11, ((ji8) : Int).toNat, none⟩ (.int .i64 t149)).heap[gb140]? = some (.cells #[.int .i64 a1_0, .int .i64 a1_1, .int .i64 a1_2, .int .i64 a1_3, .bool a1_4, .bool a1_5, .bool a1_6, .bool a1_7] 38 (0, 0))) := ⟨by (with_reducible repeat (first | refine blk_drewN ?_ _ | refine blk_drew ?_ | refine blk_alloc ?_ _)); refine blk_far ?_ (by have h_ := Kd.R_ne HO145.out BK140.out (by decide); intro e_; exact h_ (by rw [e_]; rfl)) _; (with_reducible repeat (first | refine blk_drewN ?_ _ | refine blk_drew ?_ | refine blk_alloc ?_ _)); exact BK140.out⟩
    have n3_ : Aside0 ((w31.setCell ⟨go11, ((ji8) : Int).toNat, none⟩ (.int .i64 t149)).heap[gb141]? = some (.cells #[.slice none 0 0, .int .i64 0] 37 (0, 0))) := ⟨by (with_reducible repeat (first | refine blk_drewN ?_ _ | refine blk_drew ?_ | refine blk_alloc ?_ _)); refine blk_far ?_ (by have h_ := Kd.R_ne HO145.out BK141.out (by decide); intro e_; exact h_ (by rw [e_]; rfl)) _; (with_reducible repeat (first | refine blk_drewN ?_ _ | refine blk_drew ?_ | refine blk_alloc ?_ _)); exact BK141.out⟩
    have n4_ : Aside0 ((w31.setCell ⟨go11, ((ji8) : Int).toNat, none⟩ (.int .i64 t149)).heap[gb142]? = some (.cells #[.int .i64 0, .int .i64 0, .int .i64 0, .int .i64 0, .bool false, .bool false, .bool false, .bool false] 38 (0, 0))) := ⟨by (with_reducible repeat (first | refine blk_drewN ?_ _ | refine blk_drew ?_ | refine blk_alloc ?_ _)); refine blk_far ?_ (by have h_ := Kd.R_ne HO145.out BK142.out (by decide); intro e_; exact h_ (by rw [e_]; rfl)) _; (with_reducible repeat (first | refine blk_drewN ?_ _ | refine blk_drew ?_ | refine blk_alloc ?_ _)); exact BK142.out⟩
    have n5_ : Aside0 ((w31.setCell ⟨go11, ((ji8) : Int).toNat, none⟩ (.int .i64 t149)).heap[gb147]? = some (.cells #[.slice (some ⟨go11, 0, none⟩) t143.length co23, .int .i64 t146] 37 (0, 0))) := ⟨by (with_reducible repeat (first | refine blk_drewN ?_ _ | refine blk_drew ?_ | refine blk_alloc ?_ _)); refine blk_far ?_ (by have h_ := Kd.R_ne HO145.out BK147.out (by decide); intro e_; exact h_ (by rw [e_]; rfl)) _; (with_reducible repeat (first | refine blk_drewN ?_ _ | refine blk_drew ?_ | refine blk_alloc ?_ _)); exact BK147.out⟩
    have n6_ : Aside0 (Below w.heap.size w (w31.setCell ⟨go11, ((ji8) : Int).toNat, none⟩ (.int .i64 t149))) := ⟨by repeat (first | (with_reducible first | exact HB.out | apply below_alloc | apply pw_below_drewN | apply below_drew1 | refine below_set ?_ GB11.out | refine below_set ?_ GE139.out | refine below_set ?_ GE140.out | refine below_set ?_ GE141.out | refine below_set ?_ GE142.out | refine below_set ?_ GE147.out) | exact HB.out)⟩
    (try clear HO145); (try clear BK139); (try clear BK140); (try clear BK141); (try clear BK142); (try clear BK147); (try clear HB)
    generalize (w31.setCell ⟨go11, ((ji8) : Int).toNat, none⟩ (.int .i64 t149)) = w33 at n0_ n1_ n2_ n3_ n4_ n5_ n6_ ⊢
    have HO145 := n0_; have BK139 := n1_; have BK140 := n2_; have BK141 := n3_; have BK142 := n4_; have BK147 := n5_; have HB := n6_; clear n0_ n1_ n2_ n3_ n4_ n5_ n6_
    have hnb34 := NB140_141.out
    have hnc34 := NB141_140.out
    have hnb35 := NB140_142.out
    have hnc35 := NB142_140.out
    have hcz36_0 : w33.cell? ⟨gb140, 0, none⟩ = some (.int .i64 a1_0) := (blk_cell BK140.out 0).trans rfl
    have hcz36_1 : w33.cell? ⟨gb140, 1, none⟩ = some (.int .i64 a1_1) := (blk_cell BK140.out 1).trans rfl
    have hcz36_2 : w33.cell? ⟨gb140, 2, none⟩ = some (.int .i64 a1_2) := (blk_cell BK140.out 2).trans rfl
    have hcz36_3 : w33.cell? ⟨gb140, 3, none⟩ = some (.int .i64 a1_3) := (blk_cell BK140.out 3).trans rfl
    have hcz36_4 : w33.cell? ⟨gb140, 4, none⟩ = some (.bool a1_4) := (blk_cell BK140.out 4).trans rfl
    have hcz36_5 : w33.cell? ⟨gb140, 5, none⟩ = some (.bool a1_5) := (blk_cell BK140.out 5).trans rfl
    have hcz36_6 : w33.cell? ⟨gb140, 6, none⟩ = some (.bool a1_6) := (blk_cell BK140.out 6).trans rfl
    have hcz36_7 : w33.cell? ⟨gb140, 7, none⟩ = some (.bool a1_7) := (blk_cell BK140.out 7).trans rfl
    have hfz36_0 := blk_frozen BK140.out 0
    have hfz36_1 := blk_frozen BK140.out 1
    have hfz36_2 := blk_frozen BK140.out 2
    have hfz36_3 := blk_frozen BK140.out 3
    have hfz36_4 := blk_frozen BK140.out 4
    have hfz36_5 := blk_frozen BK140.out 5
    have hfz36_6 := blk_frozen BK140.out 6
    have hfz36_7 := blk_frozen BK140.out 7
    try go_wp2_with (first | ((with_reducible refine gate_callee (f := 68) rfl ?_); refine goesM_ (some 29) rfl rfl Try.func68 #[.int .i64 (wrap64 (a1_2 - 1))] ?_; (with_reducible refine (spec_Byte.calls (wrap64 (a1_2 - 1)) t151 _ A12.out).mono ?_); rintro e w' ⟨rfl, ⟨nd, rfl⟩⟩; refine ⟨_, rfl, ?_⟩; (try (rw [drewN_self w33]; generalize hq_ : World.drewN w33 _ = w33; have n0_ : Aside0 (Kd.R (Kd.int .i64) 3 w33 w.heap.size (fun _ => True) (.slice (some ⟨go11, 0, none⟩) t143.length co23) y150) := ⟨by rw [← hq_]; exact (kr HO145.out)⟩; have n1_ : Aside0 (w33.heap[gb139]? = some (.cells #[.slice A0_0 l0_0.length c0_0, .int .i64 a0_1] 37 (0, 0))) := ⟨by rw [← hq_]; exact (kb BK139.out)⟩; have n2_ : Aside0 (w33.heap[gb140]? = some (.cells #[.int .i64 a1_0, .int .i64 a1_1, .int .i64 a1_2, .int .i64 a1_3, .bool a1_4, .bool a1_5, .bool a1_6, .bool a1_7] 38 (0, 0))) := ⟨by rw [← hq_]; exact (kb BK140.out)⟩; have n3_ : Aside0 (w33.heap[gb141]? = some (.cells #[.slice none 0 0, .int .i64 0] 37 (0, 0))) := ⟨by rw [← hq_]; exact (kb BK141.out)⟩; have n4_ : Aside0 (w33.heap[gb142]? = some (.cells #[.int .i64 0, .int .i64 0, .int .i64 0, .int .i64 0, .bool false, .bool false, .bool false, .bool false] 38 (0, 0))) := ⟨by rw [← hq_]; exact (kb BK142.out)⟩; have n5_ : Aside0 (w33.heap[gb147]? = some (.cells #[.slice (some ⟨go11, 0, none⟩) t143.length co23, .int .i64 t146] 37 (0, 0))) := ⟨by rw [← hq_]; exact (kb BK147.out)⟩; have n6_ : Aside0 (Below w.heap.size w w33) := ⟨by rw [← hq_]; exact (bw HB.out)⟩; clear HO145 BK139 BK140 BK141 BK142 BK147 HB hq_; have HO145 := n0_; have BK139 := n1_; have BK140 := n2_; have BK141 := n3_; have BK142 := n4_; have BK147 := n5_; have HB := n6_; clear n0_ n1_ n2_ n3_ n4_ n5_ n6_; have hcz36_0 : w33.cell? ⟨gb140, 0, none⟩ = some (.int .i64 a1_0) := (blk_cell BK140.out 0).trans rfl; have hcz36_1 : w33.cell? ⟨gb140, 1, none⟩ = some (.int .i64 a1_1) := (blk_cell BK140.out 1).trans rfl; have hcz36_2 : w33.cell? ⟨gb140, 2, none⟩ = some (.int .i64 a1_2) := (blk_cell BK140.out 2).trans rfl; have hcz36_3 : w33.cell? ⟨gb140, 3, none⟩ = some (.int .i64 a1_3) := (blk_cell BK140.out 3).trans rfl; have hcz36_4 : w33.cell? ⟨gb140, 4, none⟩ = some (.bool a1_4) := (blk_cell BK140.out 4).trans rfl; have hcz36_5 : w33.cell? ⟨gb140, 5, none⟩ = some (.bool a1_5) := (blk_cell BK140.out 5).trans rfl; have hcz36_6 : w33.cell? ⟨gb140, 6, none⟩ = some (.bool a1_6) := (blk_cell BK140.out 6).trans rfl; have hcz36_7 : w33.cell? ⟨gb140, 7, none⟩ = some (.bool a1_7) := (blk_cell BK140.out 7).trans rfl; have hfz36_0 := blk_frozen BK140.out 0; have hfz36_1 := blk_frozen BK140.out 1; have hfz36_2 := blk_frozen BK140.out 2; have hfz36_3 := blk_frozen BK140.out 3; have hfz36_4 := blk_frozen BK140.out 4; have hfz36_5 := blk_frozen BK140.out 5; have hfz36_6 := blk_frozen BK140.out 6; have hfz36_7 := blk_frozen BK140.out 7))))
    have n0_ : Aside0 (Kd.R (Kd.int .i64) 3 (w33.setCell ⟨gb140, 2, none⟩ (.int .i64 t151)) w.heap.size (fun _ => True) (.slice (some ⟨go11, 0, none⟩) t143.length co23) y150) := ⟨kr (Kd.R_mono (Kd.R_far (p := ⟨gb140, 2, none⟩) (Kd.R_types HO145.out BK140.out (by decide)) (fun _ hk => hk.2) (.int .i64 t151)) (fun _ hk => trivial))⟩
    have n1_ : Aside0 ((w33.setCell ⟨gb140, 2, none⟩ (.int .i64 t151)).heap[gb139]? = some (.cells #[.slice A0_0 l0_0.length c0_0, .int .i64 a0_1] 37 (0, 0))) := ⟨kf BK139.out⟩
    have n2_ : Aside0 ((w33.setCell ⟨gb140, 2, none⟩ (.int .i64 t151)).heap[gb140]? = some (.cells #[.int .i64 a1_0, .int .i64 a1_1, .int .i64 t151, .int .i64 a1_3, .bool a1_4, .bool a1_5, .bool a1_6, .bool a1_7] 38 (0, 0))) := ⟨kt BK140.out⟩
    have n3_ : Aside0 ((w33.setCell ⟨gb140, 2, none⟩ (.int .i64 t151)).heap[gb141]? = some (.cells #[.slice none 0 0, .int .i64 0] 37 (0, 0))) := ⟨kf BK141.out⟩
    have n4_ : Aside0 ((w33.setCell ⟨gb140, 2, none⟩ (.int .i64 t151)).heap[gb142]? = some (.cells #[.int .i64 0, .int .i64 0, .int .i64 0, .int .i64 0, .bool false, .bool false, .bool false, .bool false] 38 (0, 0))) := ⟨kf BK142.out⟩
    have n5_ : Aside0 ((w33.setCell ⟨gb140, 2, none⟩ (.int .i64 t151)).heap[gb147]? = some (.cells #[.slice (some ⟨go11, 0, none⟩) t143.length co23, .int .i64 t146] 37 (0, 0))) := ⟨kf BK147.out⟩
    have n6_ : Aside0 (Below w.heap.size w (w33.setCell ⟨gb140, 2, none⟩ (.int .i64 t151))) := ⟨bw HB.out⟩
    (try clear HO145); (try clear BK139); (try clear BK140); (try clear BK141); (try clear BK142); (try clear BK147); (try clear HB)
    generalize (w33.setCell ⟨gb140, 2, none⟩ (.int .i64 t151)) = w37 at n0_ n1_ n2_ n3_ n4_ n5_ n6_ ⊢
    have HO145 := n0_; have BK139 := n1_; have BK140 := n2_; have BK141 := n3_; have BK142 := n4_; have BK147 := n5_; have HB := n6_; clear n0_ n1_ n2_ n3_ n4_ n5_ n6_
    have n0_ := Aside0.mk (Kd.R_drew HO145.out)
    have n1_ := Aside0.mk (blk_drew BK139.out)
    have n2_ := Aside0.mk (blk_drew BK140.out)
    have n3_ := Aside0.mk (blk_drew BK141.out)
    have n4_ := Aside0.mk (blk_drew BK142.out)
    have n5_ := Aside0.mk (blk_drew BK147.out)
    have n6_ := Aside0.mk (below_drew1 HB.out)
    clear HO145; clear BK139; clear BK140; clear BK141; clear BK142; clear BK147; clear HB; have HO145 := n0_; have BK139 := n1_; have BK140 := n2_; have BK141 := n3_; have BK142 := n4_; have BK147 := n5_; have HB := n6_; clear n0_ n1_ n2_ n3_ n4_ n5_ n6_
    refine start_ (n := 4) (S := fun w' => w'.cell? ⟨gb147, 0, none⟩ = some (.slice (some ⟨go11, 0, none⟩) t143.length co23) ∧ w'.cell? ⟨gb147, 1, none⟩ = some (.int .i64 t146) ∧ w'.cell? ⟨gb140, 0, none⟩ = some (.int .i64 a1_0) ∧ w'.cell? ⟨gb140, 1, none⟩ = some (.int .i64 a1_1) ∧ w'.cell? ⟨gb140, 2, none⟩ = some (.int .i64 t151) ∧ w'.cell? ⟨gb140, 3, none⟩ = some (.int .i64 a1_3) ∧ w'.cell? ⟨gb140, 4, none⟩ = some (.bool a1_4) ∧ w'.cell? ⟨gb140, 5, none⟩ = some (.bool a1_5) ∧ w'.cell? ⟨gb140, 6, none⟩ = some (.bool a1_6) ∧ w'.cell? ⟨gb140, 7, none⟩ = some (.bool a1_7)) (ds := []) #[false, false, false, false] (by kernel_rfl) rfl rfl ⟨(blk_cell BK147.out 0).trans rfl, (blk_cell BK147.out 1).trans rfl, (blk_cell BK140.out 0).trans rfl, (blk_cell BK140.out 1).trans rfl, (blk_cell BK140.out 2).trans rfl, (blk_cell BK140.out 3).trans rfl, (blk_cell BK140.out 4).trans rfl, (blk_cell BK140.out 5).trans rfl, (blk_cell BK140.out 6).trans rfl, (blk_cell BK140.out 7).trans rfl⟩ (fun hHeld => ?_)
    generalize w37.drew = w38 at HO145 BK139 BK140 BK141 BK142 BK147 HB hHeld ⊢
    refine take_ (i := 0) (N := some 31) (v := ?_) (a' := ?_) #[true, false, false, false] rfl rfl (by kernel_rfl) (fun _ _ _ h => h) (Or.inl ⟨by rfl, ?_⟩) hHeld ?_ ?_
    rotate_left
    ·rintro w' ⟨s0, s1, s2, s3, s4, s5, s6, s7, s8, s9⟩
     go_simp
     with_reducible rfl
    rotate_left
    ·simp only [Act.put, List.setIfInBounds_toArray, List.set_cons_zero, List.set_cons_succ, i64_w, i32_w]
     rfl
    refine take_ (i := 1) (N := some 32) (v := ?_) (a' := ?_) #[true, true, false, false] rfl rfl (by kernel_rfl) (fun _ _ _ h => h) (Or.inl ⟨by rfl, ?_⟩) hHeld ?_ ?_
    rotate_left
    ·rintro w' ⟨s0, s1, s2, s3, s4, s5, s6, s7, s8, s9⟩
     go_simp
     with_reducible rfl
    rotate_left
    ·simp only [Act.put, List.setIfInBounds_toArray, List.set_cons_zero, List.set_cons_succ, i64_w, i32_w]
     rfl
    refine one_ (i := 2) (N := none) #[true, true, true, false] rfl rfl (by kernel_rfl) (by decide) (fun K hK => ?_)
    have hs39 : w38.cell? ⟨gb141, 0, none⟩ = some (.slice none 0 0) := (blk_cell BK141.out 0).trans rfl
    have hfs39 := blk_frozen BK141.out 0
    have hns39_0 := NB139_141.out
    have hns39_1 := NB140_141.out
    have hns39_3 := NB142_141.out
    have hns39_4 := NB147_141.out
    have hms39_0 := NB141_139.out
    have hms39_1 := NB141_140.out
    have hms39_3 := NB141_142.out
    have hms39_4 := NB141_147.out
    have hs40 : w38.cell? ⟨gb141, 1, none⟩ = some (.int .i64 0) := (blk_cell BK141.out 1).trans rfl
    have hfs40 := blk_frozen BK141.out 1
    have hns40_0 := NB139_141.out
    have hns40_1 := NB140_141.out
    have hns40_3 := NB142_141.out
    have hns40_4 := NB147_141.out
    have hms40_0 := NB141_139.out
    have hms40_1 := NB141_140.out
    have hms40_3 := NB141_142.out
    have hms40_4 := NB141_147.out
    refine skip_ (w1 := ?_) (by rfl) rfl ?_ ?_
    rotate_left
    ·go_simp
     rfl
    refine hK.out _ _ ⟨((cell_far (p := ⟨gb141, _, none⟩) NB147_141.out _).trans (((cell_far (p := ⟨gb141, _, none⟩) NB147_141.out _).trans (hHeld.1)))), ((cell_far (p := ⟨gb141, _, none⟩) NB147_141.out _).trans (((cell_far (p := ⟨gb141, _, none⟩) NB147_141.out _).trans (hHeld.2.1)))), ((cell_far (p := ⟨gb141, _, none⟩) NB140_141.out _).trans (((cell_far (p := ⟨gb141, _, none⟩) NB140_141.out _).trans (hHeld.2.2.1)))), ((cell_far (p := ⟨gb141, _, none⟩) NB140_141.out _).trans (((cell_far (p := ⟨gb141, _, none⟩) NB140_141.out _).trans (hHeld.2.2.2.1)))), ((cell_far (p := ⟨gb141, _, none⟩) NB140_141.out _).trans (((cell_far (p := ⟨gb141, _, none⟩) NB140_141.out _).trans (hHeld.2.2.2.2.1)))), ((cell_far (p := ⟨gb141, _, none⟩) NB140_141.out _).trans (((cell_far (p := ⟨gb141, _, none⟩) NB140_141.out _).trans (hHeld.2.2.2.2.2.1)))), ((cell_far (p := ⟨gb141, _, none⟩) NB140_141.out _).trans (((cell_far (p := ⟨gb141, _, none⟩) NB140_141.out _).trans (hHeld.2.2.2.2.2.2.1)))), ((cell_far (p := ⟨gb141, _, none⟩) NB140_141.out _).trans (((cell_far (p := ⟨gb141, _, none⟩) NB140_141.out _).trans (hHeld.2.2.2.2.2.2.2.1)))), ((cell_far (p := ⟨gb141, _, none⟩) NB140_141.out _).trans (((cell_far (p := ⟨gb141, _, none⟩) NB140_141.out _).trans (hHeld.2.2.2.2.2.2.2.2.1)))), ((cell_far (p := ⟨gb141, _, none⟩) NB140_141.out _).trans (((cell_far (p := ⟨gb141, _, none⟩) NB140_141.out _).trans (hHeld.2.2.2.2.2.2.2.2.2))))⟩ (fun hHeld => ?_)
    clear hK K
    refine one_ (i := 3) (N := none) #[true, true, true, true] rfl rfl (by kernel_rfl) (by decide) (fun K hK => ?_)
    have hs41 : w38.cell? ⟨gb142, 0, none⟩ = some (.int .i64 0) := (blk_cell BK142.out 0).trans rfl
    have hfs41 := blk_frozen BK142.out 0
    have hns41_0 := NB139_142.out
    have hns41_1 := NB140_142.out
    have hns41_2 := NB141_142.out
    have hns41_4 := NB147_142.out
    have hms41_0 := NB142_139.out
    have hms41_1 := NB142_140.out
    have hms41_2 := NB142_141.out
    have hms41_4 := NB142_147.out
    have hs42 : w38.cell? ⟨gb142, 1, none⟩ = some (.int .i64 0) := (blk_cell BK142.out 1).trans rfl
    have hfs42 := blk_frozen BK142.out 1
    have hns42_0 := NB139_142.out
    have hns42_1 := NB140_142.out
    have hns42_2 := NB141_142.out
    have hns42_4 := NB147_142.out
    have hms42_0 := NB142_139.out
    have hms42_1 := NB142_140.out
    have hms42_2 := NB142_141.out
    have hms42_4 := NB142_147.out
    have hs43 : w38.cell? ⟨gb142, 2, none⟩ = some (.int .i64 0) := (blk_cell BK142.out 2).trans rfl
    have hfs43 := blk_frozen BK142.out 2
    have hns43_0 := NB139_142.out
    have hns43_1 := NB140_142.out
    have hns43_2 := NB141_142.out
    have hns43_4 := NB147_142.out
    have hms43_0 := NB142_139.out
    have hms43_1 := NB142_140.out
    have hms43_2 := NB142_141.out
    have hms43_4 := NB142_147.out
    have hs44 : w38.cell? ⟨gb142, 3, none⟩ = some (.int .i64 0) := (blk_cell BK142.out 3).trans rfl
    have hfs44 := blk_frozen BK142.out 3
    have hns44_0 := NB139_142.out
    have hns44_1 := NB140_142.out
    have hns44_2 := NB141_142.out
    have hns44_4 := NB147_142.out
    have hms44_0 := NB142_139.out
    have hms44_1 := NB142_140.out
    have hms44_2 := NB142_141.out
    have hms44_4 := NB142_147.out
    have hs45 : w38.cell? ⟨gb142, 4, none⟩ = some (.bool false) := (blk_cell BK142.out 4).trans rfl
    have hfs45 := blk_frozen BK142.out 4
    have hns45_0 := NB139_142.out
    have hns45_1 := NB140_142.out
    have hns45_2 := NB141_142.out
    have hns45_4 := NB147_142.out
    have hms45_0 := NB142_139.out
    have hms45_1 := NB142_140.out
    have hms45_2 := NB142_141.out
    have hms45_4 := NB142_147.out
    have hs46 : w38.cell? ⟨gb142, 5, none⟩ = some (.bool false) := (blk_cell BK142.out 5).trans rfl
    have hfs46 := blk_frozen BK142.out 5
    have hns46_0 := NB139_142.out
    have hns46_1 := NB140_142.out
    have hns46_2 := NB141_142.out
    have hns46_4 := NB147_142.out
    have hms46_0 := NB142_139.out
    have hms46_1 := NB142_140.out
    have hms46_2 := NB142_141.out
    have hms46_4 := NB142_147.out
    have hs47 : w38.cell? ⟨gb142, 6, none⟩ = some (.bool false) := (blk_cell BK142.out 6).trans rfl
    have hfs47 := blk_frozen BK142.out 6
    have hns47_0 := NB139_142.out
    have hns47_1 := NB140_142.out
    have hns47_2 := NB141_142.out
    have hns47_4 := NB147_142.out
    have hms47_0 := NB142_139.out
    have hms47_1 := NB142_140.out
    have hms47_2 := NB142_141.out
    have hms47_4 := NB142_147.out
    have hs48 : w38.cell? ⟨gb142, 7, none⟩ = some (.bool false) := (blk_cell BK142.out 7).trans rfl
    have hfs48 := blk_frozen BK142.out 7
    have hns48_0 := NB139_142.out
    have hns48_1 := NB140_142.out
    have hns48_2 := NB141_142.out
    have hns48_4 := NB147_142.out
    have hms48_0 := NB142_139.out
    have hms48_1 := NB142_140.out
    have hms48_2 := NB142_141.out
    have hms48_4 := NB142_147.out
    refine skip_ (w1 := ?_) (by rfl) rfl ?_ ?_
    rotate_left
    ·go_simp
     rfl
    refine hK.out _ _ ⟨((cell_far (p := ⟨gb142, _, none⟩) NB147_142.out _).trans (((cell_far (p := ⟨gb142, _, none⟩) NB147_142.out _).trans (((cell_far (p := ⟨gb142, _, none⟩) NB147_142.out _).trans (((cell_far (p := ⟨gb142, _, none⟩) NB147_142.out _).trans (((cell_far (p := ⟨gb142, _, none⟩) NB147_142.out _).trans (((cell_far (p := ⟨gb142, _, none⟩) NB147_142.out _).trans (((cell_far (p := ⟨gb142, _, none⟩) NB147_142.out _).trans (((cell_far (p := ⟨gb142, _, none⟩) NB147_142.out _).trans (hHeld.1)))))))))))))))), ((cell_far (p := ⟨gb142, _, none⟩) NB147_142.out _).trans (((cell_far (p := ⟨gb142, _, none⟩) NB147_142.out _).trans (((cell_far (p := ⟨gb142, _, none⟩) NB147_142.out _).trans (((cell_far (p := ⟨gb142, _, none⟩) NB147_142.out _).trans (((cell_far (p := ⟨gb142, _, none⟩) NB147_142.out _).trans (((cell_far (p := ⟨gb142, _, none⟩) NB147_142.out _).trans (((cell_far (p := ⟨gb142, _, none⟩) NB147_142.out _).trans (((cell_far (p := ⟨gb142, _, none⟩) NB147_142.out _).trans (hHeld.2.1)))))))))))))))), ((cell_far (p := ⟨gb142, _, none⟩) NB140_142.out _).trans (((cell_far (p := ⟨gb142, _, none⟩) NB140_142.out _).trans (((cell_far (p := ⟨gb142, _, none⟩) NB140_142.out _).trans (((cell_far (p := ⟨gb142, _, none⟩) NB140_142.out _).trans (((cell_far (p := ⟨gb142, _, none⟩) NB140_142.out _).trans (((cell_far (p := ⟨gb142, _, none⟩) NB140_142.out _).trans (((cell_far (p := ⟨gb142, _, none⟩) NB140_142.out _).trans (((cell_far (p := ⟨gb142, _, none⟩) NB140_142.out _).trans (hHeld.2.2.1)))))))))))))))), ((cell_far (p := ⟨gb142, _, none⟩) NB140_142.out _).trans (((cell_far (p := ⟨gb142, _, none⟩) NB140_142.out _).trans (((cell_far (p := ⟨gb142, _, none⟩) NB140_142.out _).trans (((cell_far (p := ⟨gb142, _, none⟩) NB140_142.out _).trans (((cell_far (p := ⟨gb142, _, none⟩) NB140_142.out _).trans (((cell_far (p := ⟨gb142, _, none⟩) NB140_142.out _).trans (((cell_far (p := ⟨gb142, _, none⟩) NB140_142.out _).trans (((cell_far (p := ⟨gb142, _, none⟩) NB140_142.out _).trans (hHeld.2.2.2.1)))))))))))))))), ((cell_far (p := ⟨gb142, _, none⟩) NB140_142.out _).trans (((cell_far (p := ⟨gb142, _, none⟩) NB140_142.out _).trans (((cell_far (p := ⟨gb142, _, none⟩) NB140_142.out _).trans (((cell_far (p := ⟨gb142, _, none⟩) NB140_142.out _).trans (((cell_far (p := ⟨gb142, _, none⟩) NB140_142.out _).trans (((cell_far (p := ⟨gb142, _, none⟩) NB140_142.out _).trans (((cell_far (p := ⟨gb142, _, none⟩) NB140_142.out _).trans (((cell_far (p := ⟨gb142, _, none⟩) NB140_142.out _).trans (hHeld.2.2.2.2.1)))))))))))))))), ((cell_far (p := ⟨gb142, _, none⟩) NB140_142.out _).trans (((cell_far (p := ⟨gb142, _, none⟩) NB140_142.out _).trans (((cell_far (p := ⟨gb142, _, none⟩) NB140_142.out _).trans (((cell_far (p := ⟨gb142, _, none⟩) NB140_142.out _).trans (((cell_far (p := ⟨gb142, _, none⟩) NB140_142.out _).trans (((cell_far (p := ⟨gb142, _, none⟩) NB140_142.out _).trans (((cell_far (p := ⟨gb142, _, none⟩) NB140_142.out _).trans (((cell_far (p := ⟨gb142, _, none⟩) NB140_142.out _).trans (hHeld.2.2.2.2.2.1)))))))))))))))), ((cell_far (p := ⟨gb142, _, none⟩) NB140_142.out _).trans (((cell_far (p := ⟨gb142, _, none⟩) NB140_142.out _).trans (((cell_far (p := ⟨gb142, _, none⟩) NB140_142.out _).trans (((cell_far (p := ⟨gb142, _, none⟩) NB140_142.out _).trans (((cell_far (p := ⟨gb142, _, none⟩) NB140_142.out _).trans (((cell_far (p := ⟨gb142, _, none⟩) NB140_142.out _).trans (((cell_far (p := ⟨gb142, _, none⟩) NB140_142.out _).trans (((cell_far (p := ⟨gb142, _, none⟩) NB140_142.out _).trans (hHeld.2.2.2.2.2.2.1)))))))))))))))), ((cell_far (p := ⟨gb142, _, none⟩) NB140_142.out _).trans (((cell_far (p := ⟨gb142, _, none⟩) NB140_142.out _).trans (((cell_far (p := ⟨gb142, _, none⟩) NB140_142.out _).trans (((cell_far (p := ⟨gb142, _, none⟩) NB140_142.out _).trans (((cell_far (p := ⟨gb142, _, none⟩) NB140_142.out _).trans (((cell_far (p := ⟨gb142, _, none⟩) NB140_142.out _).trans (((cell_far (p := ⟨gb142, _, none⟩) NB140_142.out _).trans (((cell_far (p := ⟨gb142, _, none⟩) NB140_142.out _).trans (hHeld.2.2.2.2.2.2.2.1)))))))))))))))), ((cell_far (p := ⟨gb142, _, none⟩) NB140_142.out _).trans (((cell_far (p := ⟨gb142, _, none⟩) NB140_142.out _).trans (((cell_far (p := ⟨gb142, _, none⟩) NB140_142.out _).trans (((cell_far (p := ⟨gb142, _, none⟩) NB140_142.out _).trans (((cell_far (p := ⟨gb142, _, none⟩) NB140_142.out _).trans (((cell_far (p := ⟨gb142, _, none⟩) NB140_142.out _).trans (((cell_far (p := ⟨gb142, _, none⟩) NB140_142.out _).trans (((cell_far (p := ⟨gb142, _, none⟩) NB140_142.out _).trans (hHeld.2.2.2.2.2.2.2.2.1)))))))))))))))), ((cell_far (p := ⟨gb142, _, none⟩) NB140_142.out _).trans (((cell_far (p := ⟨gb142, _, none⟩) NB140_142.out _).trans (((cell_far (p := ⟨gb142, _, none⟩) NB140_142.out _).trans (((cell_far (p := ⟨gb142, _, none⟩) NB140_142.out _).trans (((cell_far (p := ⟨gb142, _, none⟩) NB140_142.out _).trans (((cell_far (p := ⟨gb142, _, none⟩) NB140_142.out _).trans (((cell_far (p := ⟨gb142, _, none⟩) NB140_142.out _).trans (((cell_far (p := ⟨gb142, _, none⟩) NB140_142.out _).trans (hHeld.2.2.2.2.2.2.2.2.2))))))))))))))))⟩ (fun hHeld => ?_)
    clear hK K
    refine done_ (by kernel_rfl) ?_
    try go_wp2
    refine bodyPost_ret (results_cc rfl _ _ gb141 gb142 37 38 #[.slice (some ⟨go11, 0, none⟩) t143.length co23, .int .i64 t146] #[.int .i64 a1_0, .int .i64 a1_1, .int .i64 t151, .int .i64 a1_3, .bool a1_4, .bool a1_5, .bool a1_6, .bool a1_7] (0, 0) (0, 0) _ _ rfl (by (with_reducible repeat (first | refine blk_drewN ?_ _ | refine blk_drew ?_ | refine blk_alloc ?_ _)); refine blk_far ?_ NB141_142.out _; (with_reducible repeat (first | refine blk_drewN ?_ _ | refine blk_drew ?_ | refine blk_alloc ?_ _)); refine blk_far ?_ NB141_142.out _; (with_reducible repeat (first | refine blk_drewN ?_ _ | refine blk_drew ?_ | refine blk_alloc ?_ _)); refine blk_far ?_ NB141_142.out _; (with_reducible repeat (first | refine blk_drewN ?_ _ | refine blk_drew ?_ | refine blk_alloc ?_ _)); refine blk_far ?_ NB141_142.out _; (with_reducible repeat (first | refine blk_drewN ?_ _ | refine blk_drew ?_ | refine blk_alloc ?_ _)); refine blk_far ?_ NB141_142.out _; (with_reducible repeat (first | refine blk_drewN ?_ _ | refine blk_drew ?_ | refine blk_alloc ?_ _)); refine blk_far ?_ NB141_142.out _; (with_reducible repeat (first | refine blk_drewN ?_ _ | refine blk_drew ?_ | refine blk_alloc ?_ _)); refine blk_far ?_ NB141_142.out _; (with_reducible repeat (first | refine blk_drewN ?_ _ | refine blk_drew ?_ | refine blk_alloc ?_ _)); refine blk_far ?_ NB141_142.out _; (with_reducible repeat (first | refine blk_drewN ?_ _ | refine blk_drew ?_ | refine blk_alloc ?_ _)); refine blk_put (cs := #[.slice (some ⟨go11, 0, none⟩) t143.length co23, .int .i64 0]) ?_ 1 _ rfl; (with_reducible repeat (first | refine blk_drewN ?_ _ | refine blk_drew ?_ | refine blk_alloc ?_ _)); refine blk_put (cs := #[.slice none 0 0, .int .i64 0]) ?_ 0 _ rfl; (with_reducible repeat (first | refine blk_drewN ?_ _ | refine blk_drew ?_ | refine blk_alloc ?_ _)); exact BK141.out) Try.underlying37 rfl (by kernel_rfl) rfl (by (with_reducible repeat (first | refine blk_drewN ?_ _ | refine blk_drew ?_ | refine blk_alloc ?_ _)); refine blk_put (cs := #[.int .i64 a1_0, .int .i64 a1_1, .int .i64 t151, .int .i64 a1_3, .bool a1_4, .bool a1_5, .bool a1_6, .bool false]) ?_ 7 _ rfl; (with_reducible repeat (first | refine blk_drewN ?_ _ | refine blk_drew ?_ | refine blk_alloc ?_ _)); refine blk_put (cs := #[.int .i64 a1_0, .int .i64 a1_1, .int .i64 t151, .int .i64 a1_3, .bool a1_4, .bool a1_5, .bool false, .bool false]) ?_ 6 _ rfl; (with_reducible repeat (first | refine blk_drewN ?_ _ | refine blk_drew ?_ | refine blk_alloc ?_ _)); refine blk_put (cs := #[.int .i64 a1_0, .int .i64 a1_1, .int .i64 t151, .int .i64 a1_3, .bool a1_4, .bool false, .bool false, .bool false]) ?_ 5 _ rfl; (with_reducible repeat (first | refine blk_drewN ?_ _ | refine blk_drew ?_ | refine blk_alloc ?_ _)); refine blk_put (cs := #[.int .i64 a1_0, .int .i64 a1_1, .int .i64 t151, .int .i64 a1_3, .bool false, .bool false, .bool false, .bool false]) ?_ 4 _ rfl; (with_reducible repeat (first | refine blk_drewN ?_ _ | refine blk_drew ?_ | refine blk_alloc ?_ _)); refine blk_put (cs := #[.int .i64 a1_0, .int .i64 a1_1, .int .i64 t151, .int .i64 0, .bool false, .bool false, .bool false, .bool false]) ?_ 3 _ rfl; (with_reducible repeat (first | refine blk_drewN ?_ _ | refine blk_drew ?_ | refine blk_alloc ?_ _)); refine blk_put (cs := #[.int .i64 a1_0, .int .i64 a1_1, .int .i64 0, .int .i64 0, .bool false, .bool false, .bool false, .bool false]) ?_ 2 _ rfl; (with_reducible repeat (first | refine blk_drewN ?_ _ | refine blk_drew ?_ | refine blk_alloc ?_ _)); refine blk_put (cs := #[.int .i64 a1_0, .int .i64 0, .int .i64 0, .int .i64 0, .bool false, .bool false, .bool false, .bool false]) ?_ 1 _ rfl; (with_reducible repeat (first | refine blk_drewN ?_ _ | refine blk_drew ?_ | refine blk_alloc ?_ _)); refine blk_put (cs := #[.int .i64 0, .int .i64 0, .int .i64 0, .int .i64 0, .bool false, .bool false, .bool false, .bool false]) ?_ 0 _ rfl; (with_reducible repeat (first | refine blk_drewN ?_ _ | refine blk_drew ?_ | refine blk_alloc ?_ _)); refine blk_far ?_ NB142_141.out _; (with_reducible repeat (first | refine blk_drewN ?_ _ | refine blk_drew ?_ | refine blk_alloc ?_ _)); refine blk_far ?_ NB142_141.out _; (with_reducible repeat (first | refine blk_drewN ?_ _ | refine blk_drew ?_ | refine blk_alloc ?_ _)); exact BK142.out) Try.underlying38 rfl (by kernel_rfl)) rfl ?_
    exact ⟨_, by first | rfl | (simp [errW_none, errW_some] <;> rfl) | (simp only [← hji8]; first | rfl | (simp [errW_none, errW_some] <;> rfl)) | (simp [*, errW_none, errW_some] <;> rfl), kr (Kd.R_mono (Kd.R_far (p := ⟨gb142, 7, none⟩) (Kd.R_far (p := ⟨gb142, 6, none⟩) (Kd.R_far (p := ⟨gb142, 5, none⟩) (Kd.R_far (p := ⟨gb142, 4, none⟩) (Kd.R_far (p := ⟨gb142, 3, none⟩) (Kd.R_far (p := ⟨gb142, 2, none⟩) (Kd.R_far (p := ⟨gb142, 1, none⟩) (Kd.R_far (p := ⟨gb142, 0, none⟩) (Kd.R_far (p := ⟨gb141, 1, none⟩) (Kd.R_far (p := ⟨gb141, 0, none⟩) (Kd.R_types (Kd.R_types HO145.out BK141.out (by decide)) BK142.out (by decide)) (fun _ hk => hk.1.2) (.slice (some ⟨go11, 0, none⟩) t143.length co23)) (fun _ hk => hk.1.2) (.int .i64 t146)) (fun _ hk => hk.2) (.int .i64 a1_0)) (fun _ hk => hk.2) (.int .i64 a1_1)) (fun _ hk => hk.2) (.int .i64 t151)) (fun _ hk => hk.2) (.int .i64 a1_3)) (fun _ hk => hk.2) (.bool a1_4)) (fun _ hk => hk.2) (.bool a1_5)) (fun _ hk => hk.2) (.bool a1_6)) (fun _ hk => hk.2) (.bool a1_7)) (fun _ hk => trivial)), bw HB.out⟩
   ·rw [if_neg c10] at H
    exact absurd H (by simp)
  ·rw [if_neg c9] at H
   exact absurd H (by simp)
 ·rw [if_neg c5] at H
  have c5b0 : ((l0_0.length : Int) == 512) = false := beq_eq_false_iff_ne.mpr c5
  have c5b1 : ((l0_0.length : Int) != 512) = true := bne_iff_ne.mpr c5
  simp only [Option.some.injEq, Prod.mk.injEq] at H
  obtain ⟨rfl, rfl, rfl, rfl, rfl, rfl, rfl, rfl, rfl, rfl⟩ := H
  go_enter Try.func21, Try.ntmps21
  try go_wp2_with (first | ((with_reducible refine gate_dst (N := 3) rfl ?_); refine bx (N := 3) (cs := #[.slice A0_0 l0_0.length c0_0, .int .i64 a0_1]) (t := 37) ?_; intro gb139 hg w49 hbox hb; have n0_ := Aside0.mk (below_step (bw HB.out) hb); have n1_ := Aside0.mk (hbox); have n2_ := Aside0.mk ((gs hg (bw HB.out))); have n3_ := Aside0.mk ((gs hg (bw HB.out))); clear HB; have HB := n0_; have BK139 := n1_; have GW139 := n2_; have GE139 := n3_; clear n0_ n1_ n2_ n3_; clear hb hbox hg) | ((with_reducible refine gate_dst (N := 4) rfl ?_); refine bx (N := 4) (cs := #[.int .i64 a1_0, .int .i64 a1_1, .int .i64 a1_2, .int .i64 a1_3, .bool a1_4, .bool a1_5, .bool a1_6, .bool a1_7]) (t := 38) ?_; intro gb140 hg w50 hbox hb; have n0_ := Aside0.mk (blk_below (g := gb139) (o := .cells #[.slice A0_0 l0_0.length c0_0, .int .i64 a0_1] 37 (0, 0)) (kb BK139.out) hb); have n1_ := Aside0.mk (below_step (bw HB.out) hb); have n2_ := Aside0.mk (hbox); have n3_ := Aside0.mk ((gs hg (bw HB.out))); have n4_ := Aside0.mk ((gs hg (bw HB.out))); have n5_ := Aside0.mk ((ga hg BK139.out)); have n6_ := Aside0.mk ((gc hg BK139.out)); clear BK139; clear HB; have BK139 := n0_; have HB := n1_; have BK140 := n2_; have GW140 := n3_; have GE140 := n4_; have NB139_140 := n5_; have NB140_139 := n6_; clear n0_ n1_ n2_ n3_ n4_ n5_ n6_; clear hb hbox hg) | ((with_reducible refine gate_dst (N := 6) rfl ?_); refine bx (N := 6) (cs := #[.slice none 0 0, .int .i64 0]) (t := 37) ?_; intro gb141 hg w51 hbox hb; have n0_ := Aside0.mk (blk_below (g := gb139) (o := .cells #[.slice A0_0 l0_0.length c0_0, .int .i64 a0_1] 37 (0, 0)) (kb BK139.out) hb); have n1_ := Aside0.mk (blk_below (g := gb140) (o := .cells #[.int .i64 a1_0, .int .i64 a1_1, .int .i64 a1_2, .int .i64 a1_3, .bool a1_4, .bool a1_5, .bool a1_6, .bool a1_7] 38 (0, 0)) (kb BK140.out) hb); have n2_ := Aside0.mk (below_step (bw HB.out) hb); have n3_ := Aside0.mk (hbox); have n4_ := Aside0.mk ((gs hg (bw HB.out))); have n5_ := Aside0.mk ((gs hg (bw HB.out))); have n6_ := Aside0.mk ((ga hg BK139.out)); have n7_ := Aside0.mk ((gc hg BK139.out)); have n8_ := Aside0.mk ((ga hg BK140.out)); have n9_ := Aside0.mk ((gc hg BK140.out)); clear BK139; clear BK140; clear HB; have BK139 := n0_; have BK140 := n1_; have HB := n2_; have BK141 := n3_; have GW141 := n4_; have GE141 := n5_; have NB139_141 := n6_; have NB141_139 := n7_; have NB140_141 := n8_; have NB141_140 := n9_; clear n0_ n1_ n2_ n3_ n4_ n5_ n6_ n7_ n8_ n9_; clear hb hbox hg) | ((with_reducible refine gate_dst (N := 7) rfl ?_); refine bx (N := 7) (cs := #[.int .i64 0, .int .i64 0, .int .i64 0, .int .i64 0, .bool false, .bool false, .bool false, .bool false]) (t := 38) ?_; intro gb142 hg w52 hbox hb; have n0_ := Aside0.mk (blk_below (g := gb139) (o := .cells #[.slice A0_0 l0_0.length c0_0, .int .i64 a0_1] 37 (0, 0)) (kb BK139.out) hb); have n1_ := Aside0.mk (blk_below (g := gb140) (o := .cells #[.int .i64 a1_0, .int .i64 a1_1, .int .i64 a1_2, .int .i64 a1_3, .bool a1_4, .bool a1_5, .bool a1_6, .bool a1_7] 38 (0, 0)) (kb BK140.out) hb); have n2_ := Aside0.mk (blk_below (g := gb141) (o := .cells #[.slice none 0 0, .int .i64 0] 37 (0, 0)) (kb BK141.out) hb); have n3_ := Aside0.mk (below_step (bw HB.out) hb); have n4_ := Aside0.mk (hbox); have n5_ := Aside0.mk ((gs hg (bw HB.out))); have n6_ := Aside0.mk ((gs hg (bw HB.out))); have n7_ := Aside0.mk ((ga hg BK139.out)); have n8_ := Aside0.mk ((gc hg BK139.out)); have n9_ := Aside0.mk ((ga hg BK140.out)); have n10_ := Aside0.mk ((gc hg BK140.out)); have n11_ := Aside0.mk ((ga hg BK141.out)); have n12_ := Aside0.mk ((gc hg BK141.out)); clear BK139; clear BK140; clear BK141; clear HB; have BK139 := n0_; have BK140 := n1_; have BK141 := n2_; have HB := n3_; have BK142 := n4_; have GW142 := n5_; have GE142 := n6_; have NB139_142 := n7_; have NB142_139 := n8_; have NB140_142 := n9_; have NB142_140 := n10_; have NB141_142 := n11_; have NB142_141 := n12_; clear n0_ n1_ n2_ n3_ n4_ n5_ n6_ n7_ n8_ n9_ n10_ n11_ n12_; clear hb hbox hg; have hnb53 := NB139_140.out; have hnc53 := NB140_139.out; have hnb54 := NB139_141.out; have hnc54 := NB141_139.out; have hnb55 := NB139_142.out; have hnc55 := NB142_139.out; have hcz56_0 : w52.cell? ⟨gb139, 0, none⟩ = some (.slice A0_0 l0_0.length c0_0) := (blk_cell BK139.out 0).trans rfl; have hcz56_1 : w52.cell? ⟨gb139, 1, none⟩ = some (.int .i64 a0_1) := (blk_cell BK139.out 1).trans rfl; have hfz56_0 := blk_frozen BK139.out 0; have hfz56_1 := blk_frozen BK139.out 1) | ((with_reducible refine gate_callee (f := 67) rfl ?_); refine goesM_ (some 10) rfl rfl Try.func67 #[.agg #[.slice A0_0 l0_0.length c0_0, .int .i64 a0_1]] ?_; (with_reducible refine (spec_l6Copy.calls _ _ l0_0 a0_1 t143 t146 _ ?side1 ?side2 A4.out).mono ?_); (case side1 => exact kc (Kd.C_below HR0_0.out HB.out)); (case side2 => exact HC0_0.out); rintro e w57 ⟨v144, rfl, ho0, hb⟩; refine ⟨_, rfl, ?_⟩; have n0_ := Aside0.mk (Kd.R_lower ho0 (below_size (bw HB.out))); have n1_ := Aside0.mk (blk_below (g := gb139) (o := .cells #[.slice A0_0 l0_0.length c0_0, .int .i64 a0_1] 37 (0, 0)) (kb BK139.out) hb); have n2_ := Aside0.mk (blk_below (g := gb140) (o := .cells #[.int .i64 a1_0, .int .i64 a1_1, .int .i64 a1_2, .int .i64 a1_3, .bool a1_4, .bool a1_5, .bool a1_6, .bool a1_7] 38 (0, 0)) (kb BK140.out) hb); have n3_ := Aside0.mk (blk_below (g := gb141) (o := .cells #[.slice none 0 0, .int .i64 0] 37 (0, 0)) (kb BK141.out) hb); have n4_ := Aside0.mk (blk_below (g := gb142) (o := .cells #[.int .i64 0, .int .i64 0, .int .i64 0, .int .i64 0, .bool false, .bool false, .bool false, .bool false] 38 (0, 0)) (kb BK142.out) hb); have n5_ := Aside0.mk (below_step (bw HB.out) hb); clear BK139; clear BK140; clear BK141; clear BK142; clear HB; have HO145 := n0_; have BK139 := n1_; have BK140 := n2_; have BK141 := n3_; have BK142 := n4_; have HB := n5_; clear n0_ n1_ n2_ n3_ n4_ n5_; (try clear hb); (try clear hb2); (try clear hk); (try clear hi); (try clear ho0)) | ((with_reducible refine gate_dst (N := 8) rfl ?_); refine bx (N := 8) (cs := #[.slice none 0 0, .int .i64 0]) (t := 37) ?_; intro gb147 hg w58 hbox hb; have n0_ := Aside0.mk (Kd.R_below (kr HO145.out) hb); have n1_ := Aside0.mk (blk_below (g := gb139) (o := .cells #[.slice A0_0 l0_0.length c0_0, .int .i64 a0_1] 37 (0, 0)) (kb BK139.out) hb); have n2_ := Aside0.mk (blk_below (g := gb140) (o := .cells #[.int .i64 a1_0, .int .i64 a1_1, .int .i64 a1_2, .int .i64 a1_3, .bool a1_4, .bool a1_5, .bool a1_6, .bool a1_7] 38 (0, 0)) (kb BK140.out) hb); have n3_ := Aside0.mk (blk_below (g := gb141) (o := .cells #[.slice none 0 0, .int .i64 0] 37 (0, 0)) (kb BK141.out) hb); have n4_ := Aside0.mk (blk_below (g := gb142) (o := .cells #[.int .i64 0, .int .i64 0, .int .i64 0, .int .i64 0, .bool false, .bool false, .bool false, .bool false] 38 (0, 0)) (kb BK142.out) hb); have n5_ := Aside0.mk (below_step (bw HB.out) hb); have n6_ := Aside0.mk (hbox); have n7_ := Aside0.mk ((gs hg (bw HB.out))); have n8_ := Aside0.mk ((gs hg (bw HB.out))); have n9_ := Aside0.mk ((ga hg BK139.out)); have n10_ := Aside0.mk ((gc hg BK139.out)); have n11_ := Aside0.mk ((ga hg BK140.out)); have n12_ := Aside0.mk ((gc hg BK140.out)); have n13_ := Aside0.mk ((ga hg BK141.out)); have n14_ := Aside0.mk ((gc hg BK141.out)); have n15_ := Aside0.mk ((ga hg BK142.out)); have n16_ := Aside0.mk ((gc hg BK142.out)); clear HO145; clear BK139; clear BK140; clear BK141; clear BK142; clear HB; have HO145 := n0_; have BK139 := n1_; have BK140 := n2_; have BK141 := n3_; have BK142 := n4_; have HB := n5_; have BK147 := n6_; have GW147 := n7_; have GE147 := n8_; have NB139_147 := n9_; have NB147_139 := n10_; have NB140_147 := n11_; have NB147_140 := n12_; have NB141_147 := n13_; have NB147_141 := n14_; have NB142_147 := n15_; have NB147_142 := n16_; clear n0_ n1_ n2_ n3_ n4_ n5_ n6_ n7_ n8_ n9_ n10_ n11_ n12_ n13_ n14_ n15_ n16_; clear hb hbox hg; obtain ⟨Ao59, co59, eo59⟩ := Kd.R_slice HO145.out; subst eo59; have hnb60 := NB147_139.out; have hnc60 := NB139_147.out; have hnb61 := NB147_140.out; have hnc61 := NB140_147.out; have hnb62 := NB147_141.out; have hnc62 := NB141_147.out; have hnb63 := NB147_142.out; have hnc63 := NB142_147.out; have hcz64_0 : w58.cell? ⟨gb147, 0, none⟩ = some (.slice none 0 0) := (blk_cell BK147.out 0).trans rfl; have hcz64_1 : w58.cell? ⟨gb147, 1, none⟩ = some (.int .i64 0) := (blk_cell BK147.out 1).trans rfl; have hfz64_0 := blk_frozen BK147.out 0; have hfz64_1 := blk_frozen BK147.out 1; have hcz65_0 : w58.cell? ⟨gb139, 0, none⟩ = some (.slice A0_0 l0_0.length c0_0) := (blk_cell BK139.out 0).trans rfl; have hcz65_1 : w58.cell? ⟨gb139, 1, none⟩ = some (.int .i64 a0_1) := (blk_cell BK139.out 1).trans rfl; have hfz65_0 := blk_frozen BK139.out 0; have hfz65_1 := blk_frozen BK139.out 1))
  have n0_ : Aside0 (Kd.R (Kd.int .i64) 3 ((w58.setCell ⟨gb147, 0, none⟩ (.slice Ao59 t143.length co59)).setCell ⟨gb147, 1, none⟩ (.int .i64 t146)) w.heap.size (fun _ => True) (.slice Ao59 t143.length co59) t143) := ⟨kr (Kd.R_mono (Kd.R_far (p := ⟨gb147, 1, none⟩) (Kd.R_far (p := ⟨gb147, 0, none⟩) (Kd.R_types HO145.out BK147.out (by decide)) (fun _ hk => hk.2) (.slice Ao59 t143.length co59)) (fun _ hk => hk.2) (.int .i64 t146)) (fun _ hk => trivial))⟩
  have n1_ : Aside0 (((w58.setCell ⟨gb147, 0, none⟩ (.slice Ao59 t143.length co59)).setCell ⟨gb147, 1, none⟩ (.int .i64 t146)).heap[gb139]? = some (.cells #[.slice A0_0 l0_0.length c0_0, .int .i64 a0_1] 37 (0, 0))) := ⟨kf BK139.out⟩
  have n2_ : Aside0 (((w58.setCell ⟨gb147, 0, none⟩ (.slice Ao59 t143.length co59)).setCell ⟨gb147, 1, none⟩ (.int .i64 t146)).heap[gb140]? = some (.cells #[.int .i64 a1_0, .int .i64 a1_1, .int .i64 a1_2, .int .i64 a1_3, .bool a1_4, .bool a1_5, .bool a1_6, .bool a1_7] 38 (0, 0))) := ⟨kf BK140.out⟩
  have n3_ : Aside0 (((w58.setCell ⟨gb147, 0, none⟩ (.slice Ao59 t143.length co59)).setCell ⟨gb147, 1, none⟩ (.int .i64 t146)).heap[gb141]? = some (.cells #[.slice none 0 0, .int .i64 0] 37 (0, 0))) := ⟨kf BK141.out⟩
  have n4_ : Aside0 (((w58.setCell ⟨gb147, 0, none⟩ (.slice Ao59 t143.length co59)).setCell ⟨gb147, 1, none⟩ (.int .i64 t146)).heap[gb142]? = some (.cells #[.int .i64 0, .int .i64 0, .int .i64 0, .int .i64 0, .bool false, .bool false, .bool false, .bool false] 38 (0, 0))) := ⟨kf BK142.out⟩
  have n5_ : Aside0 (((w58.setCell ⟨gb147, 0, none⟩ (.slice Ao59 t143.length co59)).setCell ⟨gb147, 1, none⟩ (.int .i64 t146)).heap[gb147]? = some (.cells #[.slice Ao59 t143.length co59, .int .i64 t146] 37 (0, 0))) := ⟨by (with_reducible repeat (first | refine blk_drewN ?_ _ | refine blk_drew ?_ | refine blk_alloc ?_ _)); refine blk_put (cs := #[.slice Ao59 t143.length co59, .int .i64 0]) ?_ 1 _ rfl; (with_reducible repeat (first | refine blk_drewN ?_ _ | refine blk_drew ?_ | refine blk_alloc ?_ _)); refine blk_put (cs := #[.slice none 0 0, .int .i64 0]) ?_ 0 _ rfl; (with_reducible repeat (first | refine blk_drewN ?_ _ | refine blk_drew ?_ | refine blk_alloc ?_ _)); exact BK147.out⟩
  have n6_ : Aside0 (Below w.heap.size w ((w58.setCell ⟨gb147, 0, none⟩ (.slice Ao59 t143.length co59)).setCell ⟨gb147, 1, none⟩ (.int .i64 t146))) := ⟨bw HB.out⟩
  (try clear HO145); (try clear BK139); (try clear BK140); (try clear BK141); (try clear BK142); (try clear BK147); (try clear HB)
  generalize ((w58.setCell ⟨gb147, 0, none⟩ (.slice Ao59 t143.length co59)).setCell ⟨gb147, 1, none⟩ (.int .i64 t146)) = w66 at n0_ n1_ n2_ n3_ n4_ n5_ n6_ ⊢
  have HO145 := n0_; have BK139 := n1_; have BK140 := n2_; have BK141 := n3_; have BK142 := n4_; have BK147 := n5_; have HB := n6_; clear n0_ n1_ n2_ n3_ n4_ n5_ n6_
  have n0_ := Aside0.mk (Kd.R_drew HO145.out)
  have n1_ := Aside0.mk (blk_drew BK139.out)
  have n2_ := Aside0.mk (blk_drew BK140.out)
  have n3_ := Aside0.mk (blk_drew BK141.out)
  have n4_ := Aside0.mk (blk_drew BK142.out)
  have n5_ := Aside0.mk (blk_drew BK147.out)
  have n6_ := Aside0.mk (below_drew1 HB.out)
  clear HO145; clear BK139; clear BK140; clear BK141; clear BK142; clear BK147; clear HB; have HO145 := n0_; have BK139 := n1_; have BK140 := n2_; have BK141 := n3_; have BK142 := n4_; have BK147 := n5_; have HB := n6_; clear n0_ n1_ n2_ n3_ n4_ n5_ n6_
  refine start_ (n := 4) (S := fun w' => w'.cell? ⟨gb147, 0, none⟩ = some (.slice Ao59 t143.length co59) ∧ w'.cell? ⟨gb147, 1, none⟩ = some (.int .i64 t146) ∧ w'.cell? ⟨gb140, 0, none⟩ = some (.int .i64 a1_0) ∧ w'.cell? ⟨gb140, 1, none⟩ = some (.int .i64 a1_1) ∧ w'.cell? ⟨gb140, 2, none⟩ = some (.int .i64 a1_2) ∧ w'.cell? ⟨gb140, 3, none⟩ = some (.int .i64 a1_3) ∧ w'.cell? ⟨gb140, 4, none⟩ = some (.bool a1_4) ∧ w'.cell? ⟨gb140, 5, none⟩ = some (.bool a1_5) ∧ w'.cell? ⟨gb140, 6, none⟩ = some (.bool a1_6) ∧ w'.cell? ⟨gb140, 7, none⟩ = some (.bool a1_7)) (ds := []) #[false, false, false, false] (by kernel_rfl) rfl rfl ⟨(blk_cell BK147.out 0).trans rfl, (blk_cell BK147.out 1).trans rfl, (blk_cell BK140.out 0).trans rfl, (blk_cell BK140.out 1).trans rfl, (blk_cell BK140.out 2).trans rfl, (blk_cell BK140.out 3).trans rfl, (blk_cell BK140.out 4).trans rfl, (blk_cell BK140.out 5).trans rfl, (blk_cell BK140.out 6).trans rfl, (blk_cell BK140.out 7).trans rfl⟩ (fun hHeld => ?_)
  generalize w66.drew = w67 at HO145 BK139 BK140 BK141 BK142 BK147 HB hHeld ⊢
  refine take_ (i := 0) (N := some 15) (v := ?_) (a' := ?_) #[true, false, false, false] rfl rfl (by kernel_rfl) (fun _ _ _ h => h) (Or.inl ⟨by rfl, ?_⟩) hHeld ?_ ?_
  rotate_left
  ·rintro w' ⟨s0, s1, s2, s3, s4, s5, s6, s7, s8, s9⟩
   go_simp
   with_reducible rfl
  rotate_left
  ·simp only [Act.put, List.setIfInBounds_toArray, List.set_cons_zero, List.set_cons_succ, i64_w, i32_w]
   rfl
  refine take_ (i := 1) (N := some 16) (v := ?_) (a' := ?_) #[true, true, false, false] rfl rfl (by kernel_rfl) (fun _ _ _ h => h) (Or.inl ⟨by rfl, ?_⟩) hHeld ?_ ?_
  rotate_left
  ·rintro w' ⟨s0, s1, s2, s3, s4, s5, s6, s7, s8, s9⟩
   go_simp
   with_reducible rfl
  rotate_left
  ·simp only [Act.put, List.setIfInBounds_toArray, List.set_cons_zero, List.set_cons_succ, i64_w, i32_w]
   rfl
  refine one_ (i := 2) (N := none) #[true, true, true, false] rfl rfl (by kernel_rfl) (by decide) (fun K hK => ?_)
  have hs68 : w67.cell? ⟨gb141, 0, none⟩ = some (.slice none 0 0) := (blk_cell BK141.out 0).trans rfl
  have hfs68 := blk_frozen BK141.out 0
  have hns68_0 := NB139_141.out
  have hns68_1 := NB140_141.out
  have hns68_3 := NB142_141.out
  have hns68_4 := NB147_141.out
  have hms68_0 := NB141_139.out
  have hms68_1 := NB141_140.out
  have hms68_3 := NB141_142.out
  have hms68_4 := NB141_147.out
  have hs69 : w67.cell? ⟨gb141, 1, none⟩ = some (.int .i64 0) := (blk_cell BK141.out 1).trans rfl
  have hfs69 := blk_frozen BK141.out 1
  have hns69_0 := NB139_141.out
  have hns69_1 := NB140_141.out
  have hns69_3 := NB142_141.out
  have hns69_4 := NB147_141.out
  have hms69_0 := NB141_139.out
  have hms69_1 := NB141_140.out
  have hms69_3 := NB141_142.out
  have hms69_4 := NB141_147.out
  refine skip_ (w1 := ?_) (by rfl) rfl ?_ ?_
  rotate_left
  ·go_simp
   rfl
  refine hK.out _ _ ⟨((cell_far (p := ⟨gb141, _, none⟩) NB147_141.out _).trans (((cell_far (p := ⟨gb141, _, none⟩) NB147_141.out _).trans (hHeld.1)))), ((cell_far (p := ⟨gb141, _, none⟩) NB147_141.out _).trans (((cell_far (p := ⟨gb141, _, none⟩) NB147_141.out _).trans (hHeld.2.1)))), ((cell_far (p := ⟨gb141, _, none⟩) NB140_141.out _).trans (((cell_far (p := ⟨gb141, _, none⟩) NB140_141.out _).trans (hHeld.2.2.1)))), ((cell_far (p := ⟨gb141, _, none⟩) NB140_141.out _).trans (((cell_far (p := ⟨gb141, _, none⟩) NB140_141.out _).trans (hHeld.2.2.2.1)))), ((cell_far (p := ⟨gb141, _, none⟩) NB140_141.out _).trans (((cell_far (p := ⟨gb141, _, none⟩) NB140_141.out _).trans (hHeld.2.2.2.2.1)))), ((cell_far (p := ⟨gb141, _, none⟩) NB140_141.out _).trans (((cell_far (p := ⟨gb141, _, none⟩) NB140_141.out _).trans (hHeld.2.2.2.2.2.1)))), ((cell_far (p := ⟨gb141, _, none⟩) NB140_141.out _).trans (((cell_far (p := ⟨gb141, _, none⟩) NB140_141.out _).trans (hHeld.2.2.2.2.2.2.1)))), ((cell_far (p := ⟨gb141, _, none⟩) NB140_141.out _).trans (((cell_far (p := ⟨gb141, _, none⟩) NB140_141.out _).trans (hHeld.2.2.2.2.2.2.2.1)))), ((cell_far (p := ⟨gb141, _, none⟩) NB140_141.out _).trans (((cell_far (p := ⟨gb141, _, none⟩) NB140_141.out _).trans (hHeld.2.2.2.2.2.2.2.2.1)))), ((cell_far (p := ⟨gb141, _, none⟩) NB140_141.out _).trans (((cell_far (p := ⟨gb141, _, none⟩) NB140_141.out _).trans (hHeld.2.2.2.2.2.2.2.2.2))))⟩ (fun hHeld => ?_)
  clear hK K
  refine one_ (i := 3) (N := none) #[true, true, true, true] rfl rfl (by kernel_rfl) (by decide) (fun K hK => ?_)
  have hs70 : w67.cell? ⟨gb142, 0, none⟩ = some (.int .i64 0) := (blk_cell BK142.out 0).trans rfl
  have hfs70 := blk_frozen BK142.out 0
  have hns70_0 := NB139_142.out
  have hns70_1 := NB140_142.out
  have hns70_2 := NB141_142.out
  have hns70_4 := NB147_142.out
  have hms70_0 := NB142_139.out
  have hms70_1 := NB142_140.out
  have hms70_2 := NB142_141.out
  have hms70_4 := NB142_147.out
  have hs71 : w67.cell? ⟨gb142, 1, none⟩ = some (.int .i64 0) := (blk_cell BK142.out 1).trans rfl
  have hfs71 := blk_frozen BK142.out 1
  have hns71_0 := NB139_142.out
  have hns71_1 := NB140_142.out
  have hns71_2 := NB141_142.out
  have hns71_4 := NB147_142.out
  have hms71_0 := NB142_139.out
  have hms71_1 := NB142_140.out
  have hms71_2 := NB142_141.out
  have hms71_4 := NB142_147.out
  have hs72 : w67.cell? ⟨gb142, 2, none⟩ = some (.int .i64 0) := (blk_cell BK142.out 2).trans rfl
  have hfs72 := blk_frozen BK142.out 2
  have hns72_0 := NB139_142.out
  have hns72_1 := NB140_142.out
  have hns72_2 := NB141_142.out
  have hns72_4 := NB147_142.out
  have hms72_0 := NB142_139.out
  have hms72_1 := NB142_140.out
  have hms72_2 := NB142_141.out
  have hms72_4 := NB142_147.out
  have hs73 : w67.cell? ⟨gb142, 3, none⟩ = some (.int .i64 0) := (blk_cell BK142.out 3).trans rfl
  have hfs73 := blk_frozen BK142.out 3
  have hns73_0 := NB139_142.out
  have hns73_1 := NB140_142.out
  have hns73_2 := NB141_142.out
  have hns73_4 := NB147_142.out
  have hms73_0 := NB142_139.out
  have hms73_1 := NB142_140.out
  have hms73_2 := NB142_141.out
  have hms73_4 := NB142_147.out
  have hs74 : w67.cell? ⟨gb142, 4, none⟩ = some (.bool false) := (blk_cell BK142.out 4).trans rfl
  have hfs74 := blk_frozen BK142.out 4
  have hns74_0 := NB139_142.out
  have hns74_1 := NB140_142.out
  have hns74_2 := NB141_142.out
  have hns74_4 := NB147_142.out
  have hms74_0 := NB142_139.out
  have hms74_1 := NB142_140.out
  have hms74_2 := NB142_141.out
  have hms74_4 := NB142_147.out
  have hs75 : w67.cell? ⟨gb142, 5, none⟩ = some (.bool false) := (blk_cell BK142.out 5).trans rfl
  have hfs75 := blk_frozen BK142.out 5
  have hns75_0 := NB139_142.out
  have hns75_1 := NB140_142.out
  have hns75_2 := NB141_142.out
  have hns75_4 := NB147_142.out
  have hms75_0 := NB142_139.out
  have hms75_1 := NB142_140.out
  have hms75_2 := NB142_141.out
  have hms75_4 := NB142_147.out
  have hs76 : w67.cell? ⟨gb142, 6, none⟩ = some (.bool false) := (blk_cell BK142.out 6).trans rfl
  have hfs76 := blk_frozen BK142.out 6
  have hns76_0 := NB139_142.out
  have hns76_1 := NB140_142.out
  have hns76_2 := NB141_142.out
  have hns76_4 := NB147_142.out
  have hms76_0 := NB142_139.out
  have hms76_1 := NB142_140.out
  have hms76_2 := NB142_141.out
  have hms76_4 := NB142_147.out
  have hs77 : w67.cell? ⟨gb142, 7, none⟩ = some (.bool false) := (blk_cell BK142.out 7).trans rfl
  have hfs77 := blk_frozen BK142.out 7
  have hns77_0 := NB139_142.out
  have hns77_1 := NB140_142.out
  have hns77_2 := NB141_142.out
  have hns77_4 := NB147_142.out
  have hms77_0 := NB142_139.out
  have hms77_1 := NB142_140.out
  have hms77_2 := NB142_141.out
  have hms77_4 := NB142_147.out
  refine skip_ (w1 := ?_) (by rfl) rfl ?_ ?_
  rotate_left
  ·go_simp
   rfl
  refine hK.out _ _ ⟨((cell_far (p := ⟨gb142, _, none⟩) NB147_142.out _).trans (((cell_far (p := ⟨gb142, _, none⟩) NB147_142.out _).trans (((cell_far (p := ⟨gb142, _, none⟩) NB147_142.out _).trans (((cell_far (p := ⟨gb142, _, none⟩) NB147_142.out _).trans (((cell_far (p := ⟨gb142, _, none⟩) NB147_142.out _).trans (((cell_far (p := ⟨gb142, _, none⟩) NB147_142.out _).trans (((cell_far (p := ⟨gb142, _, none⟩) NB147_142.out _).trans (((cell_far (p := ⟨gb142, _, none⟩) NB147_142.out _).trans (hHeld.1)))))))))))))))), ((cell_far (p := ⟨gb142, _, none⟩) NB147_142.out _).trans (((cell_far (p := ⟨gb142, _, none⟩) NB147_142.out _).trans (((cell_far (p := ⟨gb142, _, none⟩) NB147_142.out _).trans (((cell_far (p := ⟨gb142, _, none⟩) NB147_142.out _).trans (((cell_far (p := ⟨gb142, _, none⟩) NB147_142.out _).trans (((cell_far (p := ⟨gb142, _, none⟩) NB147_142.out _).trans (((cell_far (p := ⟨gb142, _, none⟩) NB147_142.out _).trans (((cell_far (p := ⟨gb142, _, none⟩) NB147_142.out _).trans (hHeld.2.1)))))))))))))))), ((cell_far (p := ⟨gb142, _, none⟩) NB140_142.out _).trans (((cell_far (p := ⟨gb142, _, none⟩) NB140_142.out _).trans (((cell_far (p := ⟨gb142, _, none⟩) NB140_142.out _).trans (((cell_far (p := ⟨gb142, _, none⟩) NB140_142.out _).trans (((cell_far (p := ⟨gb142, _, none⟩) NB140_142.out _).trans (((cell_far (p := ⟨gb142, _, none⟩) NB140_142.out _).trans (((cell_far (p := ⟨gb142, _, none⟩) NB140_142.out _).trans (((cell_far (p := ⟨gb142, _, none⟩) NB140_142.out _).trans (hHeld.2.2.1)))))))))))))))), ((cell_far (p := ⟨gb142, _, none⟩) NB140_142.out _).trans (((cell_far (p := ⟨gb142, _, none⟩) NB140_142.out _).trans (((cell_far (p := ⟨gb142, _, none⟩) NB140_142.out _).trans (((cell_far (p := ⟨gb142, _, none⟩) NB140_142.out _).trans (((cell_far (p := ⟨gb142, _, none⟩) NB140_142.out _).trans (((cell_far (p := ⟨gb142, _, none⟩) NB140_142.out _).trans (((cell_far (p := ⟨gb142, _, none⟩) NB140_142.out _).trans (((cell_far (p := ⟨gb142, _, none⟩) NB140_142.out _).trans (hHeld.2.2.2.1)))))))))))))))), ((cell_far (p := ⟨gb142, _, none⟩) NB140_142.out _).trans (((cell_far (p := ⟨gb142, _, none⟩) NB140_142.out _).trans (((cell_far (p := ⟨gb142, _, none⟩) NB140_142.out _).trans (((cell_far (p := ⟨gb142, _, none⟩) NB140_142.out _).trans (((cell_far (p := ⟨gb142, _, none⟩) NB140_142.out _).trans (((cell_far (p := ⟨gb142, _, none⟩) NB140_142.out _).trans (((cell_far (p := ⟨gb142, _, none⟩) NB140_142.out _).trans (((cell_far (p := ⟨gb142, _, none⟩) NB140_142.out _).trans (hHeld.2.2.2.2.1)))))))))))))))), ((cell_far (p := ⟨gb142, _, none⟩) NB140_142.out _).trans (((cell_far (p := ⟨gb142, _, none⟩) NB140_142.out _).trans (((cell_far (p := ⟨gb142, _, none⟩) NB140_142.out _).trans (((cell_far (p := ⟨gb142, _, none⟩) NB140_142.out _).trans (((cell_far (p := ⟨gb142, _, none⟩) NB140_142.out _).trans (((cell_far (p := ⟨gb142, _, none⟩) NB140_142.out _).trans (((cell_far (p := ⟨gb142, _, none⟩) NB140_142.out _).trans (((cell_far (p := ⟨gb142, _, none⟩) NB140_142.out _).trans (hHeld.2.2.2.2.2.1)))))))))))))))), ((cell_far (p := ⟨gb142, _, none⟩) NB140_142.out _).trans (((cell_far (p := ⟨gb142, _, none⟩) NB140_142.out _).trans (((cell_far (p := ⟨gb142, _, none⟩) NB140_142.out _).trans (((cell_far (p := ⟨gb142, _, none⟩) NB140_142.out _).trans (((cell_far (p := ⟨gb142, _, none⟩) NB140_142.out _).trans (((cell_far (p := ⟨gb142, _, none⟩) NB140_142.out _).trans (((cell_far (p := ⟨gb142, _, none⟩) NB140_142.out _).trans (((cell_far (p := ⟨gb142, _, none⟩) NB140_142.out _).trans (hHeld.2.2.2.2.2.2.1)))))))))))))))), ((cell_far (p := ⟨gb142, _, none⟩) NB140_142.out _).trans (((cell_far (p := ⟨gb142, _, none⟩) NB140_142.out _).trans (((cell_far (p := ⟨gb142, _, none⟩) NB140_142.out _).trans (((cell_far (p := ⟨gb142, _, none⟩) NB140_142.out _).trans (((cell_far (p := ⟨gb142, _, none⟩) NB140_142.out _).trans (((cell_far (p := ⟨gb142, _, none⟩) NB140_142.out _).trans (((cell_far (p := ⟨gb142, _, none⟩) NB140_142.out _).trans (((cell_far (p := ⟨gb142, _, none⟩) NB140_142.out _).trans (hHeld.2.2.2.2.2.2.2.1)))))))))))))))), ((cell_far (p := ⟨gb142, _, none⟩) NB140_142.out _).trans (((cell_far (p := ⟨gb142, _, none⟩) NB140_142.out _).trans (((cell_far (p := ⟨gb142, _, none⟩) NB140_142.out _).trans (((cell_far (p := ⟨gb142, _, none⟩) NB140_142.out _).trans (((cell_far (p := ⟨gb142, _, none⟩) NB140_142.out _).trans (((cell_far (p := ⟨gb142, _, none⟩) NB140_142.out _).trans (((cell_far (p := ⟨gb142, _, none⟩) NB140_142.out _).trans (((cell_far (p := ⟨gb142, _, none⟩) NB140_142.out _).trans (hHeld.2.2.2.2.2.2.2.2.1)))))))))))))))), ((cell_far (p := ⟨gb142, _, none⟩) NB140_142.out _).trans (((cell_far (p := ⟨gb142, _, none⟩) NB140_142.out _).trans (((cell_far (p := ⟨gb142, _, none⟩) NB140_142.out _).trans (((cell_far (p := ⟨gb142, _, none⟩) NB140_142.out _).trans (((cell_far (p := ⟨gb142, _, none⟩) NB140_142.out _).trans (((cell_far (p := ⟨gb142, _, none⟩) NB140_142.out _).trans (((cell_far (p := ⟨gb142, _, none⟩) NB140_142.out _).trans (((cell_far (p := ⟨gb142, _, none⟩) NB140_142.out _).trans (hHeld.2.2.2.2.2.2.2.2.2))))))))))))))))⟩ (fun hHeld => ?_)
  clear hK K
  refine done_ (by kernel_rfl) ?_
  try go_wp2
  refine bodyPost_ret (results_cc rfl _ _ gb141 gb142 37 38 #[.slice Ao59 t143.length co59, .int .i64 t146] #[.int .i64 a1_0, .int .i64 a1_1, .int .i64 a1_2, .int .i64 a1_3, .bool a1_4, .bool a1_5, .bool a1_6, .bool a1_7] (0, 0) (0, 0) _ _ rfl (by (with_reducible repeat (first | refine blk_drewN ?_ _ | refine blk_drew ?_ | refine blk_alloc ?_ _)); refine blk_far ?_ NB141_142.out _; (with_reducible repeat (first | refine blk_drewN ?_ _ | refine blk_drew ?_ | refine blk_alloc ?_ _)); refine blk_far ?_ NB141_142.out _; (with_reducible repeat (first | refine blk_drewN ?_ _ | refine blk_drew ?_ | refine blk_alloc ?_ _)); refine blk_far ?_ NB141_142.out _; (with_reducible repeat (first | refine blk_drewN ?_ _ | refine blk_drew ?_ | refine blk_alloc ?_ _)); refine blk_far ?_ NB141_142.out _; (with_reducible repeat (first | refine blk_drewN ?_ _ | refine blk_drew ?_ | refine blk_alloc ?_ _)); refine blk_far ?_ NB141_142.out _; (with_reducible repeat (first | refine blk_drewN ?_ _ | refine blk_drew ?_ | refine blk_alloc ?_ _)); refine blk_far ?_ NB141_142.out _; (with_reducible repeat (first | refine blk_drewN ?_ _ | refine blk_drew ?_ | refine blk_alloc ?_ _)); refine blk_far ?_ NB141_142.out _; (with_reducible repeat (first | refine blk_drewN ?_ _ | refine blk_drew ?_ | refine blk_alloc ?_ _)); refine blk_far ?_ NB141_142.out _; (with_reducible repeat (first | refine blk_drewN ?_ _ | refine blk_drew ?_ | refine blk_alloc ?_ _)); refine blk_put (cs := #[.slice Ao59 t143.length co59, .int .i64 0]) ?_ 1 _ rfl; (with_reducible repeat (first | refine blk_drewN ?_ _ | refine blk_drew ?_ | refine blk_alloc ?_ _)); refine blk_put (cs := #[.slice none 0 0, .int .i64 0]) ?_ 0 _ rfl; (with_reducible repeat (first | refine blk_drewN ?_ _ | refine blk_drew ?_ | refine blk_alloc ?_ _)); exact BK141.out) Try.underlying37 rfl (by kernel_rfl) rfl (by (with_reducible repeat (first | refine blk_drewN ?_ _ | refine blk_drew ?_ | refine blk_alloc ?_ _)); refine blk_put (cs := #[.int .i64 a1_0, .int .i64 a1_1, .int .i64 a1_2, .int .i64 a1_3, .bool a1_4, .bool a1_5, .bool a1_6, .bool false]) ?_ 7 _ rfl; (with_reducible repeat (first | refine blk_drewN ?_ _ | refine blk_drew ?_ | refine blk_alloc ?_ _)); refine blk_put (cs := #[.int .i64 a1_0, .int .i64 a1_1, .int .i64 a1_2, .int .i64 a1_3, .bool a1_4, .bool a1_5, .bool false, .bool false]) ?_ 6 _ rfl; (with_reducible repeat (first | refine blk_drewN ?_ _ | refine blk_drew ?_ | refine blk_alloc ?_ _)); refine blk_put (cs := #[.int .i64 a1_0, .int .i64 a1_1, .int .i64 a1_2, .int .i64 a1_3, .bool a1_4, .bool false, .bool false, .bool false]) ?_ 5 _ rfl; (with_reducible repeat (first | refine blk_drewN ?_ _ | refine blk_drew ?_ | refine blk_alloc ?_ _)); refine blk_put (cs := #[.int .i64 a1_0, .int .i64 a1_1, .int .i64 a1_2, .int .i64 a1_3, .bool false, .bool false, .bool false, .bool false]) ?_ 4 _ rfl; (with_reducible repeat (first | refine blk_drewN ?_ _ | refine blk_drew ?_ | refine blk_alloc ?_ _)); refine blk_put (cs := #[.int .i64 a1_0, .int .i64 a1_1, .int .i64 a1_2, .int .i64 0, .bool false, .bool false, .bool false, .bool false]) ?_ 3 _ rfl; (with_reducible repeat (first | refine blk_drewN ?_ _ | refine blk_drew ?_ | refine blk_alloc ?_ _)); refine blk_put (cs := #[.int .i64 a1_0, .int .i64 a1_1, .int .i64 0, .int .i64 0, .bool false, .bool false, .bool false, .bool false]) ?_ 2 _ rfl; (with_reducible repeat (first | refine blk_drewN ?_ _ | refine blk_drew ?_ | refine blk_alloc ?_ _)); refine blk_put (cs := #[.int .i64 a1_0, .int .i64 0, .int .i64 0, .int .i64 0, .bool false, .bool false, .bool false, .bool false]) ?_ 1 _ rfl; (with_reducible repeat (first | refine blk_drewN ?_ _ | refine blk_drew ?_ | refine blk_alloc ?_ _)); refine blk_put (cs := #[.int .i64 0, .int .i64 0, .int .i64 0, .int .i64 0, .bool false, .bool false, .bool false, .bool false]) ?_ 0 _ rfl; (with_reducible repeat (first | refine blk_drewN ?_ _ | refine blk_drew ?_ | refine blk_alloc ?_ _)); refine blk_far ?_ NB142_141.out _; (with_reducible repeat (first | refine blk_drewN ?_ _ | refine blk_drew ?_ | refine blk_alloc ?_ _)); refine blk_far ?_ NB142_141.out _; (with_reducible repeat (first | refine blk_drewN ?_ _ | refine blk_drew ?_ | refine blk_alloc ?_ _)); exact BK142.out) Try.underlying38 rfl (by kernel_rfl)) rfl ?_
  exact ⟨_, rt, kr (Kd.R_mono (Kd.R_far (p := ⟨gb142, 7, none⟩) (Kd.R_far (p := ⟨gb142, 6, none⟩) (Kd.R_far (p := ⟨gb142, 5, none⟩) (Kd.R_far (p := ⟨gb142, 4, none⟩) (Kd.R_far (p := ⟨gb142, 3, none⟩) (Kd.R_far (p := ⟨gb142, 2, none⟩) (Kd.R_far (p := ⟨gb142, 1, none⟩) (Kd.R_far (p := ⟨gb142, 0, none⟩) (Kd.R_far (p := ⟨gb141, 1, none⟩) (Kd.R_far (p := ⟨gb141, 0, none⟩) (Kd.R_types (Kd.R_types HO145.out BK141.out (by decide)) BK142.out (by decide)) (fun _ hk => hk.1.2) (.slice Ao59 t143.length co59)) (fun _ hk => hk.1.2) (.int .i64 t146)) (fun _ hk => hk.2) (.int .i64 a1_0)) (fun _ hk => hk.2) (.int .i64 a1_1)) (fun _ hk => hk.2) (.int .i64 a1_2)) (fun _ hk => hk.2) (.int .i64 a1_3)) (fun _ hk => hk.2) (.bool a1_4)) (fun _ hk => hk.2) (.bool a1_5)) (fun _ hk => hk.2) (.bool a1_6)) (fun _ hk => hk.2) (.bool a1_7)) (fun _ hk => trivial)), bw HB.out⟩

/-! ### spec_l1In: function 61 -/
def spec_l1In.f (a0 : Int) (a1 : Int) (a2 : Int) : Option (Bool) := if a0 ≥ a1 then (some (decide (a0 ≤ a2))) else (some false)
set_option maxHeartbeats 8000000 in
set_option maxRecDepth 100000 in
theorem spec_l1In.calls (a0 : Int) (a1 : Int) (a2 : Int) (r : Bool) (w : World) (h : spec_l1In.f a0 a1 a2 = some r) :
  Calls Try.prog 61 #[.int .i64 a0, .int .i64 a1, .int .i64 a2] w fun e w' => e = .returned (.bool r) ∧ Drawn0 w w' := by
 have H : (if a0 ≥ a1 then (some (decide (a0 ≤ a2))) else (some false)) = some r := h
 clear h
 by_cases c4 : a0 ≥ a1
 ·rw [if_pos c4] at H
  have c4b0 : decide (a1 ≤ a0) = true := decide_eq_true c4
  clear c4
  obtain rfl := Option.some.inj H
  go_enter Try.func61, Try.ntmps61
  go_wp2
  go_ret
  exact ⟨by first | rfl | (simp; done) | (simp [*]; done), by repeat (first | exact Drawn0.refl _ | apply Drawn0.step)⟩
 ·rw [if_neg c4] at H
  have c4b0 : decide (a1 ≤ a0) = false := decide_eq_false c4
  clear c4
  obtain rfl := Option.some.inj H
  go_enter Try.func61, Try.ntmps61
  go_wp2
  go_ret
  exact ⟨by first | rfl | (simp; done) | (simp [*]; done), by repeat (first | exact Drawn0.refl _ | apply Drawn0.step)⟩

/-! ### spec_OpLen: function 87 -/
def spec_OpLen.f (a0 : Int) : Option (Int) := (spec_l1In.f a0 0 29).bind fun t152 => (if t152 = true then ((some (([1, 2, 3, 3, 2, 2, 2, 2, 2, 2, 1, 1, 1, 1, 3, 3, 3, 3, 3, 3, 3, 1, 1, 1, 1, 1, 1, 1, 1, 3] : List Int) : List Int)).bind fun y153 => (if 0 ≤ a0 then (if a0 < (y153.length : Int) then (some (rd y153 a0)) else (none)) else (none))) else (some 1))
set_option maxHeartbeats 8000000 in
set_option maxRecDepth 100000 in
theorem spec_OpLen.calls (a0 : Int) (r : Int) (w : World) (h : spec_OpLen.f a0 = some r) :
  Calls Try.prog 87 #[.int .i64 a0] w fun e w' => e = .returned (.int .i64 r) ∧ Below w.heap.size w w' := by
 have HB := Aside0.mk (Below.refl w.heap.size w)
 have H : ((spec_l1In.f a0 0 29).bind fun t152 => (if t152 = true then ((some (([1, 2, 3, 3, 2, 2, 2, 2, 2, 2, 1, 1, 1, 1, 3, 3, 3, 3, 3, 3, 3, 1, 1, 1, 1, 1, 1, 1, 1, 3] : List Int) : List Int)).bind fun y153 => (if 0 ≤ a0 then (if a0 < (y153.length : Int) then (some (rd y153 a0)) else (none)) else (none))) else (some 1))) = some r := h
 clear h
 replace H := Option.bind_eq_some_iff.mp H
 obtain ⟨t152, A20, H⟩ := H
 replace H : (if t152 = true then ((some (([1, 2, 3, 3, 2, 2, 2, 2, 2, 2, 1, 1, 1, 1, 3, 3, 3, 3, 3, 3, 3, 1, 1, 1, 1, 1, 1, 1, 1, 3] : List Int) : List Int)).bind fun y153 => (if 0 ≤ a0 then (if a0 < (y153.length : Int) then (some (rd y153 a0)) else (none)) else (none))) else (some 1)) = some r := H
 have A2 := Aside0.mk A20
 clear A20
 by_cases c3 : t152 = true
 ·subst c3
  have H1 : ((some (([1, 2, 3, 3, 2, 2, 2, 2, 2, 2, 1, 1, 1, 1, 3, 3, 3, 3, 3, 3, 3, 1, 1, 1, 1, 1, 1, 1, 1, 3] : List Int) : List Int)).bind fun y153 => (if 0 ≤ a0 then (if a0 < (y153.length : Int) then (some (rd y153 a0)) else (none)) else (none))) = some r := by rw [if_pos rfl] at H; exact H
  clear H
  have H := H1
  clear H1
  obtain ⟨y153, hy153⟩ : ∃ y_ : List Int, y_ = (([1, 2, 3, 3, 2, 2, 2, 2, 2, 2, 1, 1, 1, 1, 3, 3, 3, 3, 3, 3, 3, 1, 1, 1, 1, 1, 1, 1, 1, 3] : List Int)) := ⟨_, rfl⟩
  replace H : (if 0 ≤ a0 then (if a0 < (y153.length : Int) then (some (rd y153 a0)) else (none)) else (none)) = some r := by first | (rw [hy153]; with_reducible exact H) | (have H2_ := (Option.bind_some _ _).symm.trans H; rw [hy153]; with_reducible exact H2_) | (have H2_ := (Option.bind_some _ _).symm.trans H; with_reducible exact H2_) | with_reducible exact H | (rw [hy153]; exact H) | exact H
  have Ny153 := Aside0.mk hy153
  clear hy153
  by_cases c4 : 0 ≤ a0
  ·rw [if_pos c4] at H
   have c4b0 : decide (0 ≤ a0) = true := decide_eq_true c4
   clear c4
   by_cases c5 : a0 < (y153.length : Int)
   ·rw [if_pos c5] at H
    have c5b0 : decide (a0 < (y153.length : Int)) = true := decide_eq_true c5
    clear c5
    obtain rfl := Option.some.inj H
    go_enter Try.func87, Try.ntmps87
    go_wp2_with (first | ((with_reducible refine gate_callee (f := 61) rfl ?_); refine goesM_ (some 4) rfl rfl Try.func61 #[.int .i64 a0, .int .i64 0, .int .i64 29] ?_; (with_reducible refine (spec_l1In.calls a0 0 29 true _ A2.out).mono ?_); rintro e w' ⟨rfl, ⟨nd, rfl⟩⟩; refine ⟨_, rfl, ?_⟩) | ((with_reducible refine gate_dst (N := 6) rfl ?_); refine Kd.R_lit (Kd.int .i64) _ 3 ?hg (N := 6) ?hd (xs := ([1, 2, 3, 3, 2, 2, 2, 2, 2, 2, 1, 1, 1, 1, 3, 3, 3, 3, 3, 3, 3, 1, 1, 1, 1, 1, 1, 1, 1, 3] : List Int)) (inner := [.int .i64 1, .int .i64 2, .int .i64 3, .int .i64 3, .int .i64 2, .int .i64 2, .int .i64 2, .int .i64 2, .int .i64 2, .int .i64 2, .int .i64 1, .int .i64 1, .int .i64 1, .int .i64 1, .int .i64 3, .int .i64 3, .int .i64 3, .int .i64 3, .int .i64 3, .int .i64 3, .int .i64 3, .int .i64 1, .int .i64 1, .int .i64 1, .int .i64 1, .int .i64 1, .int .i64 1, .int .i64 1, .int .i64 1, .int .i64 3]) (ok := fun _ => True) (okp := fun _ => True) ?hr ?hp (fun _ hk => hk) trivial (Below.refl _ _) (Nat.le_refl _) (by simp) ?_; (case hd => rfl); (case hg => rfl); (case hr => first | (go_simp; done) | (go_simp; rfl)); (case hp => exact (Reps.one (show Kd.M (Kd.int .i64) _ _ _ 1 [.int .i64 1] from rfl) (Reps.one (show Kd.M (Kd.int .i64) _ _ _ 2 [.int .i64 2] from rfl) (Reps.one (show Kd.M (Kd.int .i64) _ _ _ 3 [.int .i64 3] from rfl) (Reps.one (show Kd.M (Kd.int .i64) _ _ _ 3 [.int .i64 3] from rfl) (Reps.one (show Kd.M (Kd.int .i64) _ _ _ 2 [.int .i64 2] from rfl) (Reps.one (show Kd.M (Kd.int .i64) _ _ _ 2 [.int .i64 2] from rfl) (Reps.one (show Kd.M (Kd.int .i64) _ _ _ 2 [.int .i64 2] from rfl) (Reps.one (show Kd.M (Kd.int .i64) _ _ _ 2 [.int .i64 2] from rfl) (Reps.one (show Kd.M (Kd.int .i64) _ _ _ 2 [.int .i64 2] from rfl) (Reps.one (show Kd.M (Kd.int .i64) _ _ _ 2 [.int .i64 2] from rfl) (Reps.one (show Kd.M (Kd.int .i64) _ _ _ 1 [.int .i64 1] from rfl) (Reps.one (show Kd.M (Kd.int .i64) _ _ _ 1 [.int .i64 1] from rfl) (Reps.one (show Kd.M (Kd.int .i64) _ _ _ 1 [.int .i64 1] from rfl) (Reps.one (show Kd.M (Kd.int .i64) _ _ _ 1 [.int .i64 1] from rfl) (Reps.one (show Kd.M (Kd.int .i64) _ _ _ 3 [.int .i64 3] from rfl) (Reps.one (show Kd.M (Kd.int .i64) _ _ _ 3 [.int .i64 3] from rfl) (Reps.one (show Kd.M (Kd.int .i64) _ _ _ 3 [.int .i64 3] from rfl) (Reps.one (show Kd.M (Kd.int .i64) _ _ _ 3 [.int .i64 3] from rfl) (Reps.one (show Kd.M (Kd.int .i64) _ _ _ 3 [.int .i64 3] from rfl) (Reps.one (show Kd.M (Kd.int .i64) _ _ _ 3 [.int .i64 3] from rfl) (Reps.one (show Kd.M (Kd.int .i64) _ _ _ 3 [.int .i64 3] from rfl) (Reps.one (show Kd.M (Kd.int .i64) _ _ _ 1 [.int .i64 1] from rfl) (Reps.one (show Kd.M (Kd.int .i64) _ _ _ 1 [.int .i64 1] from rfl) (Reps.one (show Kd.M (Kd.int .i64) _ _ _ 1 [.int .i64 1] from rfl) (Reps.one (show Kd.M (Kd.int .i64) _ _ _ 1 [.int .i64 1] from rfl) (Reps.one (show Kd.M (Kd.int .i64) _ _ _ 1 [.int .i64 1] from rfl) (Reps.one (show Kd.M (Kd.int .i64) _ _ _ 1 [.int .i64 1] from rfl) (Reps.one (show Kd.M (Kd.int .i64) _ _ _ 1 [.int .i64 1] from rfl) (Reps.one (show Kd.M (Kd.int .i64) _ _ _ 1 [.int .i64 1] from rfl) (Reps.one (show Kd.M (Kd.int .i64) _ _ _ 3 [.int .i64 3] from rfl) (Reps.none _ _)))))))))))))))))))))))))))))))); intro v154 w6 ho7 hb hg_ hnew_; clear hg_ hnew_; (first | rw [← Ny153.out] at ho7 | (simp only [Int.reduceToNat] at ho7; rw [← Ny153.out] at ho7)); have n0_ := Aside0.mk (Kd.R_lower ho7 (below_size (bw HB.out))); have n1_ := Aside0.mk (below_step (bw HB.out) hb); clear HB; have HO155 := n0_; have HB := n1_; clear n0_ n1_; clear hb ho7; obtain ⟨Ao8, co8, eo8⟩ := Kd.R_slice HO155.out; subst eo8; have p156 : 0 ≤ (a0 : Int) := dt; have q156 : a0 < (y153.length : Int) := dt; obtain ⟨ad156, e156, hx156_0⟩ := Kd.at_int (Kd.R_reads' HO155.out).2.2 a0 p156 q156; cases e156; replace p156 := eq_true p156; replace q156 := eq_true q156))
    go_ret
    exact ⟨rt, bw HB.out⟩
   ·rw [if_neg c5] at H
    exact absurd H (by simp)
  ·rw [if_neg c4] at H
   exact absurd H (by simp)
 ·replace c3 := Bool.eq_false_iff.mpr c3
  subst c3
  have H1 : (some 1) = some r := by rw [if_neg (show ¬ (false = true) by decide)] at H; exact H
  clear H
  have H := H1
  clear H1
  obtain rfl := Option.some.inj H
  go_enter Try.func87, Try.ntmps87
  go_wp2_with (first | ((with_reducible refine gate_callee (f := 61) rfl ?_); refine goesM_ (some 4) rfl rfl Try.func61 #[.int .i64 a0, .int .i64 0, .int .i64 29] ?_; (with_reducible refine (spec_l1In.calls a0 0 29 false _ A2.out).mono ?_); rintro e w' ⟨rfl, ⟨nd, rfl⟩⟩; refine ⟨_, rfl, ?_⟩))
  go_ret
  exact ⟨rt, bw HB.out⟩

/-! ### spec_Addr: function 92 -/
def spec_Addr.f (a0 : Int) : Option (Int) := some (Go.bits .and .i64 a0 65535)
set_option maxHeartbeats 8000000 in
set_option maxRecDepth 100000 in
theorem spec_Addr.calls (a0 : Int) (r : Int) (w : World) (h : spec_Addr.f a0 = some r) :
  Calls Try.prog 92 #[.int .i64 a0] w fun e w' => e = .returned (.int .i64 r) ∧ Drawn0 w w' := by
 have H : (some (Go.bits .and .i64 a0 65535)) = some r := h
 clear h
 obtain rfl := Option.some.inj H
 go_enter Try.func92, Try.ntmps92
 go_wp2
 go_ret
 exact ⟨by first | rfl | (simp; done) | (simp [*]; done), by repeat (first | exact Drawn0.refl _ | apply Drawn0.step)⟩

/-! ### spec_Signs: function 107 -/
def spec_Signs.f (a0 : Int) : Option (Bool × Bool) := (spec_Byte.f a0).bind fun t157 => ((spec_Byte.f a0).bind fun t158 => (some ((t157 == 0), decide (t158 > 127))))
set_option maxHeartbeats 8000000 in
set_option maxRecDepth 100000 in
theorem spec_Signs.calls (a0 : Int) (r1 : Bool) (r2 : Bool) (w : World) (h : spec_Signs.f a0 = some (r1, r2)) :
  Calls Try.prog 107 #[.int .i64 a0] w fun e w' => e = .returned (.tuple #[.bool r1, .bool r2]) ∧ Drawn0 w w' := by
 have H : ((spec_Byte.f a0).bind fun t157 => ((spec_Byte.f a0).bind fun t158 => (some ((t157 == 0), decide (t158 > 127))))) = some (r1, r2) := h
 clear h
 replace H := Option.bind_eq_some_iff.mp H
 obtain ⟨t157, A20, H⟩ := H
 replace H : ((spec_Byte.f a0).bind fun t158 => (some ((t157 == 0), decide (t158 > 127)))) = some (r1, r2) := H
 have A2 := Aside0.mk A20
 clear A20
 replace H := Option.bind_eq_some_iff.mp H
 obtain ⟨t158, A30, H⟩ := H
 replace H : (some ((t157 == 0), decide (t158 > 127))) = some (r1, r2) := H
 have A3 := Aside0.mk A30
 clear A30
 simp only [Option.some.injEq, Prod.mk.injEq] at H
 obtain ⟨rfl, rfl⟩ := H
 go_enter Try.func107, Try.ntmps107
 go_wp2_with (first | ((with_reducible refine gate_callee (f := 68) rfl ?_); refine goesM_ (some 5) rfl rfl Try.func68 #[.int .i64 a0] ?_; (with_reducible refine (spec_Byte.calls a0 t157 _ A2.out).mono ?_); rintro e w' ⟨rfl, ⟨nd, rfl⟩⟩; refine ⟨_, rfl, ?_⟩) | ((with_reducible refine gate_callee (f := 68) rfl ?_); refine goesM_ (some 8) rfl rfl Try.func68 #[.int .i64 a0] ?_; (with_reducible refine (spec_Byte.calls a0 t158 _ A3.out).mono ?_); rintro e w' ⟨rfl, ⟨nd, rfl⟩⟩; refine ⟨_, rfl, ?_⟩))
 go_ret2
 exact ⟨by first | rfl | (simp; done) | (simp [*]; done), by repeat (first | exact Drawn0.refl _ | apply Drawn0.step)⟩

/-! ### spec_SetA: function 96 -/
def spec_SetA.f (a0_0 : Int) (a0_1 : Int) (a0_2 : Int) (a0_3 : Int) (a0_4 : Bool) (a0_5 : Bool) (a0_6 : Bool) (a0_7 : Bool) (a1 : Int) : Option (Int × Int × Int × Int × Bool × Bool × Bool × Bool) := (spec_Byte.f a1).bind fun t161 => ((spec_Signs.f a1).bind fun bt162 => (some (t161, a0_1, a0_2, a0_3, bt162.1, bt162.2, a0_6, a0_7)))
set_option maxHeartbeats 8000000 in
set_option maxRecDepth 100000 in
theorem spec_SetA.calls (a0_0 : Int) (a0_1 : Int) (a0_2 : Int) (a0_3 : Int) (a0_4 : Bool) (a0_5 : Bool) (a0_6 : Bool) (a0_7 : Bool) (a1 : Int) (r1 : Int) (r2 : Int) (r3 : Int) (r4 : Int) (r5 : Bool) (r6 : Bool) (r7 : Bool) (r8 : Bool) (w : World) (h : spec_SetA.f a0_0 a0_1 a0_2 a0_3 a0_4 a0_5 a0_6 a0_7 a1 = some (r1, r2, r3, r4, r5, r6, r7, r8)) :
  Calls Try.prog 96 #[.agg #[.int .i64 a0_0, .int .i64 a0_1, .int .i64 a0_2, .int .i64 a0_3, .bool a0_4, .bool a0_5, .bool a0_6, .bool a0_7], .int .i64 a1] w fun e w' => e = .returned (.agg #[.int .i64 r1, .int .i64 r2, .int .i64 r3, .int .i64 r4, .bool r5, .bool r6, .bool r7, .bool r8]) ∧ Below w.heap.size w w' := by
 have hu38 := Try.underlying38
 have HB := Aside0.mk (Below.refl w.heap.size w)
 have H : ((spec_Byte.f a1).bind fun t161 => ((spec_Signs.f a1).bind fun bt162 => (some (t161, a0_1, a0_2, a0_3, bt162.1, bt162.2, a0_6, a0_7)))) = some (r1, r2, r3, r4, r5, r6, r7, r8) := h
 clear h
 replace H := Option.bind_eq_some_iff.mp H
 obtain ⟨t161, A30, H⟩ := H
 replace H : ((spec_Signs.f a1).bind fun bt162 => (some (t161, a0_1, a0_2, a0_3, bt162.1, bt162.2, a0_6, a0_7))) = some (r1, r2, r3, r4, r5, r6, r7, r8) := H
 have A3 := Aside0.mk A30
 clear A30
 replace H := Option.bind_eq_some_iff.mp H
 obtain ⟨⟨t162, t163⟩, A40, H⟩ := H
 replace H : (some (t161, a0_1, a0_2, a0_3, t162, t163, a0_6, a0_7)) = some (r1, r2, r3, r4, r5, r6, r7, r8) := H
 have A4 := Aside0.mk A40
 clear A40
 simp only [Option.some.injEq, Prod.mk.injEq] at H
 obtain ⟨rfl, rfl, rfl, rfl, rfl, rfl, rfl, rfl⟩ := H
 go_enter Try.func96, Try.ntmps96
 go_wp2_with (first | ((with_reducible refine gate_dst (N := 2) rfl ?_); refine bx (N := 2) (cs := #[.int .i64 a0_0, .int .i64 a0_1, .int .i64 a0_2, .int .i64 a0_3, .bool a0_4, .bool a0_5, .bool a0_6, .bool a0_7]) (t := 38) ?_; intro gb159 hg w5 hbox hb; have n0_ := Aside0.mk (below_step (bw HB.out) hb); have n1_ := Aside0.mk (hbox); have n2_ := Aside0.mk ((gs hg (bw HB.out))); have n3_ := Aside0.mk ((gs hg (bw HB.out))); clear HB; have HB := n0_; have BK159 := n1_; have GW159 := n2_; have GE159 := n3_; clear n0_ n1_ n2_ n3_; clear hb hbox hg) | ((with_reducible refine gate_dst (N := 4) rfl ?_); refine bx (N := 4) (cs := #[.int .i64 0, .int .i64 0, .int .i64 0, .int .i64 0, .bool false, .bool false, .bool false, .bool false]) (t := 38) ?_; intro gb160 hg w6 hbox hb; have n0_ := Aside0.mk (blk_below (g := gb159) (o := .cells #[.int .i64 a0_0, .int .i64 a0_1, .int .i64 a0_2, .int .i64 a0_3, .bool a0_4, .bool a0_5, .bool a0_6, .bool a0_7] 38 (0, 0)) (kb BK159.out) hb); have n1_ := Aside0.mk (below_step (bw HB.out) hb); have n2_ := Aside0.mk (hbox); have n3_ := Aside0.mk ((gs hg (bw HB.out))); have n4_ := Aside0.mk ((gs hg (bw HB.out))); have n5_ := Aside0.mk ((ga hg BK159.out)); have n6_ := Aside0.mk ((gc hg BK159.out)); clear BK159; clear HB; have BK159 := n0_; have HB := n1_; have BK160 := n2_; have GW160 := n3_; have GE160 := n4_; have NB159_160 := n5_; have NB160_159 := n6_; clear n0_ n1_ n2_ n3_ n4_ n5_ n6_; clear hb hbox hg) | ((with_reducible refine gate_callee (f := 68) rfl ?_); refine goesM_ (some 6) rfl rfl Try.func68 #[.int .i64 a1] ?_; (with_reducible refine (spec_Byte.calls a1 t161 _ A3.out).mono ?_); rintro e w' ⟨rfl, ⟨nd, rfl⟩⟩; refine ⟨_, rfl, ?_⟩; (try (rw [drewN_self w6]; generalize hq_ : World.drewN w6 _ = w6; have n0_ : Aside0 (w6.heap[gb159]? = some (.cells #[.int .i64 a0_0, .int .i64 a0_1, .int .i64 a0_2, .int .i64 a0_3, .bool a0_4, .bool a0_5, .bool a0_6, .bool a0_7] 38 (0, 0))) := ⟨by rw [← hq_]; exact (kb BK159.out)⟩; have n1_ : Aside0 (w6.heap[gb160]? = some (.cells #[.int .i64 0, .int .i64 0, .int .i64 0, .int .i64 0, .bool false, .bool false, .bool false, .bool false] 38 (0, 0))) := ⟨by rw [← hq_]; exact (kb BK160.out)⟩; have n2_ : Aside0 (Below w.heap.size w w6) := ⟨by rw [← hq_]; exact (bw HB.out)⟩; clear BK159 BK160 HB hq_; have BK159 := n0_; have BK160 := n1_; have HB := n2_; clear n0_ n1_ n2_; (try (have hcz8_0 : w6.cell? ⟨gb159, 0, none⟩ = some (.int .i64 a0_0) := (blk_cell BK159.out 0).trans rfl)); (try (have hcz8_1 : w6.cell? ⟨gb159, 1, none⟩ = some (.int .i64 a0_1) := (blk_cell BK159.out 1).trans rfl)); (try (have hcz8_2 : w6.cell? ⟨gb159, 2, none⟩ = some (.int .i64 a0_2) := (blk_cell BK159.out 2).trans rfl)); (try (have hcz8_3 : w6.cell? ⟨gb159, 3, none⟩ = some (.int .i64 a0_3) := (blk_cell BK159.out 3).trans rfl)); (try (have hcz8_4 : w6.cell? ⟨gb159, 4, none⟩ = some (.bool a0_4) := (blk_cell BK159.out 4).trans rfl)); (try (have hcz8_5 : w6.cell? ⟨gb159, 5, none⟩ = some (.bool a0_5) := (blk_cell BK159.out 5).trans rfl)); (try (have hcz8_6 : w6.cell? ⟨gb159, 6, none⟩ = some (.bool a0_6) := (blk_cell BK159.out 6).trans rfl)); (try (have hcz8_7 : w6.cell? ⟨gb159, 7, none⟩ = some (.bool a0_7) := (blk_cell BK159.out 7).trans rfl)); (try (have hfz8_0 := blk_frozen BK159.out 0)); (try (have hfz8_1 := blk_frozen BK159.out 1)); (try (have hfz8_2 := blk_frozen BK159.out 2)); (try (have hfz8_3 := blk_frozen BK159.out 3)); (try (have hfz8_4 := blk_frozen BK159.out 4)); (try (have hfz8_5 := blk_frozen BK159.out 5)); (try (have hfz8_6 := blk_frozen BK159.out 6)); (try (have hfz8_7 := blk_frozen BK159.out 7)); (try (have hcz9_0 : w6.cell? ⟨gb160, 0, none⟩ = some (.int .i64 0) := (blk_cell BK160.out 0).trans rfl)); (try (have hcz9_1 : w6.cell? ⟨gb160, 1, none⟩ = some (.int .i64 0) := (blk_cell BK160.out 1).trans rfl)); (try (have hcz9_2 : w6.cell? ⟨gb160, 2, none⟩ = some (.int .i64 0) := (blk_cell BK160.out 2).trans rfl)); (try (have hcz9_3 : w6.cell? ⟨gb160, 3, none⟩ = some (.int .i64 0) := (blk_cell BK160.out 3).trans rfl)); (try (have hcz9_4 : w6.cell? ⟨gb160, 4, none⟩ = some (.bool false) := (blk_cell BK160.out 4).trans rfl)); (try (have hcz9_5 : w6.cell? ⟨gb160, 5, none⟩ = some (.bool false) := (blk_cell BK160.out 5).trans rfl)); (try (have hcz9_6 : w6.cell? ⟨gb160, 6, none⟩ = some (.bool false) := (blk_cell BK160.out 6).trans rfl)); (try (have hcz9_7 : w6.cell? ⟨gb160, 7, none⟩ = some (.bool false) := (blk_cell BK160.out 7).trans rfl)); (try (have hfz9_0 := blk_frozen BK160.out 0)); (try (have hfz9_1 := blk_frozen BK160.out 1)); (try (have hfz9_2 := blk_frozen BK160.out 2)); (try (have hfz9_3 := blk_frozen BK160.out 3)); (try (have hfz9_4 := blk_frozen BK160.out 4)); (try (have hfz9_5 := blk_frozen BK160.out 5)); (try (have hfz9_6 := blk_frozen BK160.out 6)); (try (have hfz9_7 := blk_frozen BK160.out 7)))); have hnb7 := NB159_160.out; have hnc7 := NB160_159.out; have hcz8_0 : w6.cell? ⟨gb159, 0, none⟩ = some (.int .i64 a0_0) := (blk_cell BK159.out 0).trans rfl; have hcz8_1 : w6.cell? ⟨gb159, 1, none⟩ = some (.int .i64 a0_1) := (blk_cell BK159.out 1).trans rfl; have hcz8_2 : w6.cell? ⟨gb159, 2, none⟩ = some (.int .i64 a0_2) := (blk_cell BK159.out 2).trans rfl; have hcz8_3 : w6.cell? ⟨gb159, 3, none⟩ = some (.int .i64 a0_3) := (blk_cell BK159.out 3).trans rfl; have hcz8_4 : w6.cell? ⟨gb159, 4, none⟩ = some (.bool a0_4) := (blk_cell BK159.out 4).trans rfl; have hcz8_5 : w6.cell? ⟨gb159, 5, none⟩ = some (.bool a0_5) := (blk_cell BK159.out 5).trans rfl; have hcz8_6 : w6.cell? ⟨gb159, 6, none⟩ = some (.bool a0_6) := (blk_cell BK159.out 6).trans rfl; have hcz8_7 : w6.cell? ⟨gb159, 7, none⟩ = some (.bool a0_7) := (blk_cell BK159.out 7).trans rfl; have hfz8_0 := blk_frozen BK159.out 0; have hfz8_1 := blk_frozen BK159.out 1; have hfz8_2 := blk_frozen BK159.out 2; have hfz8_3 := blk_frozen BK159.out 3; have hfz8_4 := blk_frozen BK159.out 4; have hfz8_5 := blk_frozen BK159.out 5; have hfz8_6 := blk_frozen BK159.out 6; have hfz8_7 := blk_frozen BK159.out 7) | ((with_reducible refine gate_callee (f := 107) rfl ?_); refine goesM_ (some 10) rfl rfl Try.func107 #[.int .i64 a1] ?_; (with_reducible refine (spec_Signs.calls a1 t162 t163 _ A4.out).mono ?_); rintro e w' ⟨rfl, ⟨nd, rfl⟩⟩; refine ⟨_, rfl, ?_⟩; have hcz9_0 : w6.cell? ⟨gb160, 0, none⟩ = some (.int .i64 0) := (blk_cell BK160.out 0).trans rfl; have hcz9_1 : w6.cell? ⟨gb160, 1, none⟩ = some (.int .i64 0) := (blk_cell BK160.out 1).trans rfl; have hcz9_2 : w6.cell? ⟨gb160, 2, none⟩ = some (.int .i64 0) := (blk_cell BK160.out 2).trans rfl; have hcz9_3 : w6.cell? ⟨gb160, 3, none⟩ = some (.int .i64 0) := (blk_cell BK160.out 3).trans rfl; have hcz9_4 : w6.cell? ⟨gb160, 4, none⟩ = some (.bool false) := (blk_cell BK160.out 4).trans rfl; have hcz9_5 : w6.cell? ⟨gb160, 5, none⟩ = some (.bool false) := (blk_cell BK160.out 5).trans rfl; have hcz9_6 : w6.cell? ⟨gb160, 6, none⟩ = some (.bool false) := (blk_cell BK160.out 6).trans rfl; have hcz9_7 : w6.cell? ⟨gb160, 7, none⟩ = some (.bool false) := (blk_cell BK160.out 7).trans rfl; have hfz9_0 := blk_frozen BK160.out 0; have hfz9_1 := blk_frozen BK160.out 1; have hfz9_2 := blk_frozen BK160.out 2; have hfz9_3 := blk_frozen BK160.out 3; have hfz9_4 := blk_frozen BK160.out 4; have hfz9_5 := blk_frozen BK160.out 5; have hfz9_6 := blk_frozen BK160.out 6; have hfz9_7 := blk_frozen BK160.out 7))
 refine bodyPost_ret (results_cell_row rfl _ _ gb160 38 #[.int .i64 t161, .int .i64 a0_1, .int .i64 a0_2, .int .i64 a0_3, .bool t162, .bool t163, .bool a0_6, .bool a0_7] (0, 0) _ rfl (by (with_reducible repeat (first | refine blk_drewN ?_ _ | refine blk_drew ?_ | refine blk_alloc ?_ _)); refine blk_put (cs := #[.int .i64 t161, .int .i64 a0_1, .int .i64 a0_2, .int .i64 a0_3, .bool t162, .bool t163, .bool a0_6, .bool false]) ?_ 7 _ rfl; (with_reducible repeat (first | refine blk_drewN ?_ _ | refine blk_drew ?_ | refine blk_alloc ?_ _)); refine blk_put (cs := #[.int .i64 t161, .int .i64 a0_1, .int .i64 a0_2, .int .i64 a0_3, .bool t162, .bool t163, .bool false, .bool false]) ?_ 6 _ rfl; (with_reducible repeat (first | refine blk_drewN ?_ _ | refine blk_drew ?_ | refine blk_alloc ?_ _)); refine blk_put (cs := #[.int .i64 t161, .int .i64 a0_1, .int .i64 a0_2, .int .i64 a0_3, .bool t162, .bool false, .bool false, .bool false]) ?_ 5 _ rfl; (with_reducible repeat (first | refine blk_drewN ?_ _ | refine blk_drew ?_ | refine blk_alloc ?_ _)); refine blk_put (cs := #[.int .i64 t161, .int .i64 a0_1, .int .i64 a0_2, .int .i64 a0_3, .bool false, .bool false, .bool false, .bool false]) ?_ 4 _ rfl; (with_reducible repeat (first | refine blk_drewN ?_ _ | refine blk_drew ?_ | refine blk_alloc ?_ _)); refine blk_put (cs := #[.int .i64 t161, .int .i64 a0_1, .int .i64 a0_2, .int .i64 0, .bool false, .bool false, .bool false, .bool false]) ?_ 3 _ rfl; (with_reducible repeat (first | refine blk_drewN ?_ _ | refine blk_drew ?_ | refine blk_alloc ?_ _)); refine blk_put (cs := #[.int .i64 t161, .int .i64 a0_1, .int .i64 0, .int .i64 0, .bool false, .bool false, .bool false, .bool false]) ?_ 2 _ rfl; (with_reducible repeat (first | refine blk_drewN ?_ _ | refine blk_drew ?_ | refine blk_alloc ?_ _)); refine blk_put (cs := #[.int .i64 t161, .int .i64 0, .int .i64 0, .int .i64 0, .bool false, .bool false, .bool false, .bool false]) ?_ 1 _ rfl; (with_reducible repeat (first | refine blk_drewN ?_ _ | refine blk_drew ?_ | refine blk_alloc ?_ _)); refine blk_put (cs := #[.int .i64 0, .int .i64 0, .int .i64 0, .int .i64 0, .bool false, .bool false, .bool false, .bool false]) ?_ 0 _ rfl; (with_reducible repeat (first | refine blk_drewN ?_ _ | refine blk_drew ?_ | refine blk_alloc ?_ _)); refine blk_far ?_ NB160_159.out _; (with_reducible repeat (first | refine blk_drewN ?_ _ | refine blk_drew ?_ | refine blk_alloc ?_ _)); refine blk_far ?_ NB160_159.out _; (with_reducible repeat (first | refine blk_drewN ?_ _ | refine blk_drew ?_ | refine blk_alloc ?_ _)); refine blk_far ?_ NB160_159.out _; (with_reducible repeat (first | refine blk_drewN ?_ _ | refine blk_drew ?_ | refine blk_alloc ?_ _)); exact BK160.out) Try.underlying38 rfl (by kernel_rfl)) rfl ?_
 exact ⟨rt, bw HB.out⟩

/-! ### spec_l1Bit: function 103 -/
def spec_l1Bit.f (a0 : Bool) : Option (Int) := if a0 = true then (some 1) else (some 0)
set_option maxHeartbeats 8000000 in
set_option maxRecDepth 100000 in
theorem spec_l1Bit.calls (a0 : Bool) (r : Int) (w : World) (h : spec_l1Bit.f a0 = some r) :
  Calls Try.prog 103 #[.bool a0] w fun e w' => e = .returned (.int .i64 r) ∧ Drawn0 w w' := by
 have H : (if a0 = true then (some 1) else (some 0)) = some r := h
 clear h
 by_cases c2 : a0 = true
 ·subst c2
  have H1 : (some 1) = some r := by rw [if_pos rfl] at H; exact H
  clear H
  have H := H1
  clear H1
  obtain rfl := Option.some.inj H
  go_enter Try.func103, Try.ntmps103
  go_wp2
  go_ret
  exact ⟨by first | rfl | (simp; done) | (simp [*]; done), by repeat (first | exact Drawn0.refl _ | apply Drawn0.step)⟩
 ·replace c2 := Bool.eq_false_iff.mpr c2
  subst c2
  have H1 : (some 0) = some r := by rw [if_neg (show ¬ (false = true) by decide)] at H; exact H
  clear H
  have H := H1
  clear H1
  obtain rfl := Option.some.inj H
  go_enter Try.func103, Try.ntmps103
  go_wp2
  go_ret
  exact ⟨by first | rfl | (simp; done) | (simp [*]; done), by repeat (first | exact Drawn0.refl _ | apply Drawn0.step)⟩

/-! ### spec_Add8: function 113 -/
def spec_Add8.f (a0 : Int) (a1 : Int) (a2 : Bool) : Option (Int × Bool) := (spec_Byte.f a0).bind fun t164 => ((spec_Byte.f a1).bind fun t165 => ((spec_l1Bit.f a2).bind fun t166 => ((spec_Byte.f (wrap64 ((wrap64 (t164 + t165)) + t166))).bind fun t167 => (some (t167, decide ((wrap64 ((wrap64 (t164 + t165)) + t166)) > 255))))))
set_option maxHeartbeats 8000000 in
set_option maxRecDepth 100000 in
theorem spec_Add8.calls (a0 : Int) (a1 : Int) (a2 : Bool) (r1 : Int) (r2 : Bool) (w : World) (h : spec_Add8.f a0 a1 a2 = some (r1, r2)) :
  Calls Try.prog 113 #[.int .i64 a0, .int .i64 a1, .bool a2] w fun e w' => e = .returned (.tuple #[.int .i64 r1, .bool r2]) ∧ Drawn0 w w' := by
 have H : ((spec_Byte.f a0).bind fun t164 => ((spec_Byte.f a1).bind fun t165 => ((spec_l1Bit.f a2).bind fun t166 => ((spec_Byte.f (wrap64 ((wrap64 (t164 + t165)) + t166))).bind fun t167 => (some (t167, decide ((wrap64 ((wrap64 (t164 + t165)) + t166)) > 255))))))) = some (r1, r2) := h
 clear h
 replace H := Option.bind_eq_some_iff.mp H
 obtain ⟨t164, A40, H⟩ := H
 replace H : ((spec_Byte.f a1).bind fun t165 => ((spec_l1Bit.f a2).bind fun t166 => ((spec_Byte.f (wrap64 ((wrap64 (t164 + t165)) + t166))).bind fun t167 => (some (t167, decide ((wrap64 ((wrap64 (t164 + t165)) + t166)) > 255)))))) = some (r1, r2) := H
 have A4 := Aside0.mk A40
 clear A40
 replace H := Option.bind_eq_some_iff.mp H
 obtain ⟨t165, A50, H⟩ := H
 replace H : ((spec_l1Bit.f a2).bind fun t166 => ((spec_Byte.f (wrap64 ((wrap64 (t164 + t165)) + t166))).bind fun t167 => (some (t167, decide ((wrap64 ((wrap64 (t164 + t165)) + t166)) > 255))))) = some (r1, r2) := H
 have A5 := Aside0.mk A50
 clear A50
 replace H := Option.bind_eq_some_iff.mp H
 obtain ⟨t166, A60, H⟩ := H
 replace H : ((spec_Byte.f (wrap64 ((wrap64 (t164 + t165)) + t166))).bind fun t167 => (some (t167, decide ((wrap64 ((wrap64 (t164 + t165)) + t166)) > 255)))) = some (r1, r2) := H
 have A6 := Aside0.mk A60
 clear A60
 replace H := Option.bind_eq_some_iff.mp H
 obtain ⟨t167, A70, H⟩ := H
 replace H : (some (t167, decide ((wrap64 ((wrap64 (t164 + t165)) + t166)) > 255))) = some (r1, r2) := H
 have A7 := Aside0.mk A70
 clear A70
 simp only [Option.some.injEq, Prod.mk.injEq] at H
 obtain ⟨rfl, rfl⟩ := H
 go_enter Try.func113, Try.ntmps113
 go_wp2_with (first | ((with_reducible refine gate_callee (f := 68) rfl ?_); refine goesM_ (some 10) rfl rfl Try.func68 #[.int .i64 a0] ?_; (with_reducible refine (spec_Byte.calls a0 t164 _ A4.out).mono ?_); rintro e w' ⟨rfl, ⟨nd, rfl⟩⟩; refine ⟨_, rfl, ?_⟩) | ((with_reducible refine gate_callee (f := 68) rfl ?_); refine goesM_ (some 12) rfl rfl Try.func68 #[.int .i64 a1] ?_; (with_reducible refine (spec_Byte.calls a1 t165 _ A5.out).mono ?_); rintro e w' ⟨rfl, ⟨nd, rfl⟩⟩; refine ⟨_, rfl, ?_⟩) | ((with_reducible refine gate_callee (f := 103) rfl ?_); refine goesM_ (some 15) rfl rfl Try.func103 #[.bool a2] ?_; (with_reducible refine (spec_l1Bit.calls a2 t166 _ A6.out).mono ?_); rintro e w' ⟨rfl, ⟨nd, rfl⟩⟩; refine ⟨_, rfl, ?_⟩) | ((with_reducible refine gate_callee (f := 68) rfl ?_); refine goesM_ (some 18) rfl rfl Try.func68 #[.int .i64 (wrap64 ((wrap64 (t164 + t165)) + t166))] ?_; (with_reducible refine (spec_Byte.calls (wrap64 ((wrap64 (t164 + t165)) + t166)) t167 _ A7.out).mono ?_); rintro e w' ⟨rfl, ⟨nd, rfl⟩⟩; refine ⟨_, rfl, ?_⟩))
 go_ret2
 exact ⟨by first | rfl | (simp; done) | (simp [*]; done), by repeat (first | exact Drawn0.refl _ | apply Drawn0.step)⟩

/-! ### spec_Sub8: function 106 -/
def spec_Sub8.f (a0 : Int) (a1 : Int) (a2 : Bool) : Option (Int × Bool) := (spec_Byte.f a0).bind fun t180 => ((spec_Byte.f a1).bind fun t181 => ((spec_l1Bit.f a2).bind fun t182 => ((spec_Byte.f (wrap64 ((wrap64 ((wrap64 (t180 - t181)) - 1)) + t182))).bind fun t183 => (some (t183, decide ((wrap64 ((wrap64 ((wrap64 (t180 - t181)) - 1)) + t182)) ≥ 0))))))
set_option maxHeartbeats 8000000 in
set_option maxRecDepth 100000 in
theorem spec_Sub8.calls (a0 : Int) (a1 : Int) (a2 : Bool) (r1 : Int) (r2 : Bool) (w : World) (h : spec_Sub8.f a0 a1 a2 = some (r1, r2)) :
  Calls Try.prog 106 #[.int .i64 a0, .int .i64 a1, .bool a2] w fun e w' => e = .returned (.tuple #[.int .i64 r1, .bool r2]) ∧ Drawn0 w w' := by
 have H : ((spec_Byte.f a0).bind fun t180 => ((spec_Byte.f a1).bind fun t181 => ((spec_l1Bit.f a2).bind fun t182 => ((spec_Byte.f (wrap64 ((wrap64 ((wrap64 (t180 - t181)) - 1)) + t182))).bind fun t183 => (some (t183, decide ((wrap64 ((wrap64 ((wrap64 (t180 - t181)) - 1)) + t182)) ≥ 0))))))) = some (r1, r2) := h
 clear h
 replace H := Option.bind_eq_some_iff.mp H
 obtain ⟨t180, A40, H⟩ := H
 replace H : ((spec_Byte.f a1).bind fun t181 => ((spec_l1Bit.f a2).bind fun t182 => ((spec_Byte.f (wrap64 ((wrap64 ((wrap64 (t180 - t181)) - 1)) + t182))).bind fun t183 => (some (t183, decide ((wrap64 ((wrap64 ((wrap64 (t180 - t181)) - 1)) + t182)) ≥ 0)))))) = some (r1, r2) := H
 have A4 := Aside0.mk A40
 clear A40
 replace H := Option.bind_eq_some_iff.mp H
 obtain ⟨t181, A50, H⟩ := H
 replace H : ((spec_l1Bit.f a2).bind fun t182 => ((spec_Byte.f (wrap64 ((wrap64 ((wrap64 (t180 - t181)) - 1)) + t182))).bind fun t183 => (some (t183, decide ((wrap64 ((wrap64 ((wrap64 (t180 - t181)) - 1)) + t182)) ≥ 0))))) = some (r1, r2) := H
 have A5 := Aside0.mk A50
 clear A50
 replace H := Option.bind_eq_some_iff.mp H
 obtain ⟨t182, A60, H⟩ := H
 replace H : ((spec_Byte.f (wrap64 ((wrap64 ((wrap64 (t180 - t181)) - 1)) + t182))).bind fun t183 => (some (t183, decide ((wrap64 ((wrap64 ((wrap64 (t180 - t181)) - 1)) + t182)) ≥ 0)))) = some (r1, r2) := H
 have A6 := Aside0.mk A60
 clear A60
 replace H := Option.bind_eq_some_iff.mp H
 obtain ⟨t183, A70, H⟩ := H
 replace H : (some (t183, decide ((wrap64 ((wrap64 ((wrap64 (t180 - t181)) - 1)) + t182)) ≥ 0))) = some (r1, r2) := H
 have A7 := Aside0.mk A70
 clear A70
 simp only [Option.some.injEq, Prod.mk.injEq] at H
 obtain ⟨rfl, rfl⟩ := H
 go_enter Try.func106, Try.ntmps106
 go_wp2_with (first | ((with_reducible refine gate_callee (f := 68) rfl ?_); refine goesM_ (some 10) rfl rfl Try.func68 #[.int .i64 a0] ?_; (with_reducible refine (spec_Byte.calls a0 t180 _ A4.out).mono ?_); rintro e w' ⟨rfl, ⟨nd, rfl⟩⟩; refine ⟨_, rfl, ?_⟩) | ((with_reducible refine gate_callee (f := 68) rfl ?_); refine goesM_ (some 12) rfl rfl Try.func68 #[.int .i64 a1] ?_; (with_reducible refine (spec_Byte.calls a1 t181 _ A5.out).mono ?_); rintro e w' ⟨rfl, ⟨nd, rfl⟩⟩; refine ⟨_, rfl, ?_⟩) | ((with_reducible refine gate_callee (f := 103) rfl ?_); refine goesM_ (some 16) rfl rfl Try.func103 #[.bool a2] ?_; (with_reducible refine (spec_l1Bit.calls a2 t182 _ A6.out).mono ?_); rintro e w' ⟨rfl, ⟨nd, rfl⟩⟩; refine ⟨_, rfl, ?_⟩) | ((with_reducible refine gate_callee (f := 68) rfl ?_); refine goesM_ (some 19) rfl rfl Try.func68 #[.int .i64 (wrap64 ((wrap64 ((wrap64 (t180 - t181)) - 1)) + t182))] ?_; (with_reducible refine (spec_Byte.calls (wrap64 ((wrap64 ((wrap64 (t180 - t181)) - 1)) + t182)) t183 _ A7.out).mono ?_); rintro e w' ⟨rfl, ⟨nd, rfl⟩⟩; refine ⟨_, rfl, ?_⟩))
 go_ret2
 exact ⟨by first | rfl | (simp; done) | (simp [*]; done), by repeat (first | exact Drawn0.refl _ | apply Drawn0.step)⟩

/-! ### spec_SetX: function 108 -/
def spec_SetX.f (a0_0 : Int) (a0_1 : Int) (a0_2 : Int) (a0_3 : Int) (a0_4 : Bool) (a0_5 : Bool) (a0_6 : Bool) (a0_7 : Bool) (a1 : Int) : Option (Int × Int × Int × Int × Bool × Bool × Bool × Bool) := (spec_Byte.f a1).bind fun t186 => ((spec_Signs.f a1).bind fun bt187 => (some (a0_0, t186, a0_2, a0_3, bt187.1, bt187.2, a0_6, a0_7)))
set_option maxHeartbeats 8000000 in
set_option maxRecDepth 100000 in
theorem spec_SetX.calls (a0_0 : Int) (a0_1 : Int) (a0_2 : Int) (a0_3 : Int) (a0_4 : Bool) (a0_5 : Bool) (a0_6 : Bool) (a0_7 : Bool) (a1 : Int) (r1 : Int) (r2 : Int) (r3 : Int) (r4 : Int) (r5 : Bool) (r6 : Bool) (r7 : Bool) (r8 : Bool) (w : World) (h : spec_SetX.f a0_0 a0_1 a0_2 a0_3 a0_4 a0_5 a0_6 a0_7 a1 = some (r1, r2, r3, r4, r5, r6, r7, r8)) :
  Calls Try.prog 108 #[.agg #[.int .i64 a0_0, .int .i64 a0_1, .int .i64 a0_2, .int .i64 a0_3, .bool a0_4, .bool a0_5, .bool a0_6, .bool a0_7], .int .i64 a1] w fun e w' => e = .returned (.agg #[.int .i64 r1, .int .i64 r2, .int .i64 r3, .int .i64 r4, .bool r5, .bool r6, .bool r7, .bool r8]) ∧ Below w.heap.size w w' := by
 have hu38 := Try.underlying38
 have HB := Aside0.mk (Below.refl w.heap.size w)
 have H : ((spec_Byte.f a1).bind fun t186 => ((spec_Signs.f a1).bind fun bt187 => (some (a0_0, t186, a0_2, a0_3, bt187.1, bt187.2, a0_6, a0_7)))) = some (r1, r2, r3, r4, r5, r6, r7, r8) := h
 clear h
 replace H := Option.bind_eq_some_iff.mp H
 obtain ⟨t186, A30, H⟩ := H
 replace H : ((spec_Signs.f a1).bind fun bt187 => (some (a0_0, t186, a0_2, a0_3, bt187.1, bt187.2, a0_6, a0_7))) = some (r1, r2, r3, r4, r5, r6, r7, r8) := H
 have A3 := Aside0.mk A30
 clear A30
 replace H := Option.bind_eq_some_iff.mp H
 obtain ⟨⟨t187, t188⟩, A40, H⟩ := H
 replace H : (some (a0_0, t186, a0_2, a0_3, t187, t188, a0_6, a0_7)) = some (r1, r2, r3, r4, r5, r6, r7, r8) := H
 have A4 := Aside0.mk A40
 clear A40
 simp only [Option.some.injEq, Prod.mk.injEq] at H
 obtain ⟨rfl, rfl, rfl, rfl, rfl, rfl, rfl, rfl⟩ := H
 go_enter Try.func108, Try.ntmps108
 go_wp2_with (first | ((with_reducible refine gate_dst (N := 2) rfl ?_); refine bx (N := 2) (cs := #[.int .i64 a0_0, .int .i64 a0_1, .int .i64 a0_2, .int .i64 a0_3, .bool a0_4, .bool a0_5, .bool a0_6, .bool a0_7]) (t := 38) ?_; intro gb184 hg w5 hbox hb; have n0_ := Aside0.mk (below_step (bw HB.out) hb); have n1_ := Aside0.mk (hbox); have n2_ := Aside0.mk ((gs hg (bw HB.out))); have n3_ := Aside0.mk ((gs hg (bw HB.out))); clear HB; have HB := n0_; have BK184 := n1_; have GW184 := n2_; have GE184 := n3_; clear n0_ n1_ n2_ n3_; clear hb hbox hg) | ((with_reducible refine gate_dst (N := 4) rfl ?_); refine bx (N := 4) (cs := #[.int .i64 0, .int .i64 0, .int .i64 0, .int .i64 0, .bool false, .bool false, .bool false, .bool false]) (t := 38) ?_; intro gb185 hg w6 hbox hb; have n0_ := Aside0.mk (blk_below (g := gb184) (o := .cells #[.int .i64 a0_0, .int .i64 a0_1, .int .i64 a0_2, .int .i64 a0_3, .bool a0_4, .bool a0_5, .bool a0_6, .bool a0_7] 38 (0, 0)) (kb BK184.out) hb); have n1_ := Aside0.mk (below_step (bw HB.out) hb); have n2_ := Aside0.mk (hbox); have n3_ := Aside0.mk ((gs hg (bw HB.out))); have n4_ := Aside0.mk ((gs hg (bw HB.out))); have n5_ := Aside0.mk ((ga hg BK184.out)); have n6_ := Aside0.mk ((gc hg BK184.out)); clear BK184; clear HB; have BK184 := n0_; have HB := n1_; have BK185 := n2_; have GW185 := n3_; have GE185 := n4_; have NB184_185 := n5_; have NB185_184 := n6_; clear n0_ n1_ n2_ n3_ n4_ n5_ n6_; clear hb hbox hg) | ((with_reducible refine gate_callee (f := 68) rfl ?_); refine goesM_ (some 6) rfl rfl Try.func68 #[.int .i64 a1] ?_; (with_reducible refine (spec_Byte.calls a1 t186 _ A3.out).mono ?_); rintro e w' ⟨rfl, ⟨nd, rfl⟩⟩; refine ⟨_, rfl, ?_⟩; (try (rw [drewN_self w6]; generalize hq_ : World.drewN w6 _ = w6; have n0_ : Aside0 (w6.heap[gb184]? = some (.cells #[.int .i64 a0_0, .int .i64 a0_1, .int .i64 a0_2, .int .i64 a0_3, .bool a0_4, .bool a0_5, .bool a0_6, .bool a0_7] 38 (0, 0))) := ⟨by rw [← hq_]; exact (kb BK184.out)⟩; have n1_ : Aside0 (w6.heap[gb185]? = some (.cells #[.int .i64 0, .int .i64 0, .int .i64 0, .int .i64 0, .bool false, .bool false, .bool false, .bool false] 38 (0, 0))) := ⟨by rw [← hq_]; exact (kb BK185.out)⟩; have n2_ : Aside0 (Below w.heap.size w w6) := ⟨by rw [← hq_]; exact (bw HB.out)⟩; clear BK184 BK185 HB hq_; have BK184 := n0_; have BK185 := n1_; have HB := n2_; clear n0_ n1_ n2_; (try (have hcz8_0 : w6.cell? ⟨gb184, 0, none⟩ = some (.int .i64 a0_0) := (blk_cell BK184.out 0).trans rfl)); (try (have hcz8_1 : w6.cell? ⟨gb184, 1, none⟩ = some (.int .i64 a0_1) := (blk_cell BK184.out 1).trans rfl)); (try (have hcz8_2 : w6.cell? ⟨gb184, 2, none⟩ = some (.int .i64 a0_2) := (blk_cell BK184.out 2).trans rfl)); (try (have hcz8_3 : w6.cell? ⟨gb184, 3, none⟩ = some (.int .i64 a0_3) := (blk_cell BK184.out 3).trans rfl)); (try (have hcz8_4 : w6.cell? ⟨gb184, 4, none⟩ = some (.bool a0_4) := (blk_cell BK184.out 4).trans rfl)); (try (have hcz8_5 : w6.cell? ⟨gb184, 5, none⟩ = some (.bool a0_5) := (blk_cell BK184.out 5).trans rfl)); (try (have hcz8_6 : w6.cell? ⟨gb184, 6, none⟩ = some (.bool a0_6) := (blk_cell BK184.out 6).trans rfl)); (try (have hcz8_7 : w6.cell? ⟨gb184, 7, none⟩ = some (.bool a0_7) := (blk_cell BK184.out 7).trans rfl)); (try (have hfz8_0 := blk_frozen BK184.out 0)); (try (have hfz8_1 := blk_frozen BK184.out 1)); (try (have hfz8_2 := blk_frozen BK184.out 2)); (try (have hfz8_3 := blk_frozen BK184.out 3)); (try (have hfz8_4 := blk_frozen BK184.out 4)); (try (have hfz8_5 := blk_frozen BK184.out 5)); (try (have hfz8_6 := blk_frozen BK184.out 6)); (try (have hfz8_7 := blk_frozen BK184.out 7)); (try (have hcz9_0 : w6.cell? ⟨gb185, 0, none⟩ = some (.int .i64 0) := (blk_cell BK185.out 0).trans rfl)); (try (have hcz9_1 : w6.cell? ⟨gb185, 1, none⟩ = some (.int .i64 0) := (blk_cell BK185.out 1).trans rfl)); (try (have hcz9_2 : w6.cell? ⟨gb185, 2, none⟩ = some (.int .i64 0) := (blk_cell BK185.out 2).trans rfl)); (try (have hcz9_3 : w6.cell? ⟨gb185, 3, none⟩ = some (.int .i64 0) := (blk_cell BK185.out 3).trans rfl)); (try (have hcz9_4 : w6.cell? ⟨gb185, 4, none⟩ = some (.bool false) := (blk_cell BK185.out 4).trans rfl)); (try (have hcz9_5 : w6.cell? ⟨gb185, 5, none⟩ = some (.bool false) := (blk_cell BK185.out 5).trans rfl)); (try (have hcz9_6 : w6.cell? ⟨gb185, 6, none⟩ = some (.bool false) := (blk_cell BK185.out 6).trans rfl)); (try (have hcz9_7 : w6.cell? ⟨gb185, 7, none⟩ = some (.bool false) := (blk_cell BK185.out 7).trans rfl)); (try (have hfz9_0 := blk_frozen BK185.out 0)); (try (have hfz9_1 := blk_frozen BK185.out 1)); (try (have hfz9_2 := blk_frozen BK185.out 2)); (try (have hfz9_3 := blk_frozen BK185.out 3)); (try (have hfz9_4 := blk_frozen BK185.out 4)); (try (have hfz9_5 := blk_frozen BK185.out 5)); (try (have hfz9_6 := blk_frozen BK185.out 6)); (try (have hfz9_7 := blk_frozen BK185.out 7)))); have hnb7 := NB184_185.out; have hnc7 := NB185_184.out; have hcz8_0 : w6.cell? ⟨gb184, 0, none⟩ = some (.int .i64 a0_0) := (blk_cell BK184.out 0).trans rfl; have hcz8_1 : w6.cell? ⟨gb184, 1, none⟩ = some (.int .i64 a0_1) := (blk_cell BK184.out 1).trans rfl; have hcz8_2 : w6.cell? ⟨gb184, 2, none⟩ = some (.int .i64 a0_2) := (blk_cell BK184.out 2).trans rfl; have hcz8_3 : w6.cell? ⟨gb184, 3, none⟩ = some (.int .i64 a0_3) := (blk_cell BK184.out 3).trans rfl; have hcz8_4 : w6.cell? ⟨gb184, 4, none⟩ = some (.bool a0_4) := (blk_cell BK184.out 4).trans rfl; have hcz8_5 : w6.cell? ⟨gb184, 5, none⟩ = some (.bool a0_5) := (blk_cell BK184.out 5).trans rfl; have hcz8_6 : w6.cell? ⟨gb184, 6, none⟩ = some (.bool a0_6) := (blk_cell BK184.out 6).trans rfl; have hcz8_7 : w6.cell? ⟨gb184, 7, none⟩ = some (.bool a0_7) := (blk_cell BK184.out 7).trans rfl; have hfz8_0 := blk_frozen BK184.out 0; have hfz8_1 := blk_frozen BK184.out 1; have hfz8_2 := blk_frozen BK184.out 2; have hfz8_3 := blk_frozen BK184.out 3; have hfz8_4 := blk_frozen BK184.out 4; have hfz8_5 := blk_frozen BK184.out 5; have hfz8_6 := blk_frozen BK184.out 6; have hfz8_7 := blk_frozen BK184.out 7) | ((with_reducible refine gate_callee (f := 107) rfl ?_); refine goesM_ (some 10) rfl rfl Try.func107 #[.int .i64 a1] ?_; (with_reducible refine (spec_Signs.calls a1 t187 t188 _ A4.out).mono ?_); rintro e w' ⟨rfl, ⟨nd, rfl⟩⟩; refine ⟨_, rfl, ?_⟩; have hcz9_0 : w6.cell? ⟨gb185, 0, none⟩ = some (.int .i64 0) := (blk_cell BK185.out 0).trans rfl; have hcz9_1 : w6.cell? ⟨gb185, 1, none⟩ = some (.int .i64 0) := (blk_cell BK185.out 1).trans rfl; have hcz9_2 : w6.cell? ⟨gb185, 2, none⟩ = some (.int .i64 0) := (blk_cell BK185.out 2).trans rfl; have hcz9_3 : w6.cell? ⟨gb185, 3, none⟩ = some (.int .i64 0) := (blk_cell BK185.out 3).trans rfl; have hcz9_4 : w6.cell? ⟨gb185, 4, none⟩ = some (.bool false) := (blk_cell BK185.out 4).trans rfl; have hcz9_5 : w6.cell? ⟨gb185, 5, none⟩ = some (.bool false) := (blk_cell BK185.out 5).trans rfl; have hcz9_6 : w6.cell? ⟨gb185, 6, none⟩ = some (.bool false) := (blk_cell BK185.out 6).trans rfl; have hcz9_7 : w6.cell? ⟨gb185, 7, none⟩ = some (.bool false) := (blk_cell BK185.out 7).trans rfl; have hfz9_0 := blk_frozen BK185.out 0; have hfz9_1 := blk_frozen BK185.out 1; have hfz9_2 := blk_frozen BK185.out 2; have hfz9_3 := blk_frozen BK185.out 3; have hfz9_4 := blk_frozen BK185.out 4; have hfz9_5 := blk_frozen BK185.out 5; have hfz9_6 := blk_frozen BK185.out 6; have hfz9_7 := blk_frozen BK185.out 7))
 refine bodyPost_ret (results_cell_row rfl _ _ gb185 38 #[.int .i64 a0_0, .int .i64 t186, .int .i64 a0_2, .int .i64 a0_3, .bool t187, .bool t188, .bool a0_6, .bool a0_7] (0, 0) _ rfl (by (with_reducible repeat (first | refine blk_drewN ?_ _ | refine blk_drew ?_ | refine blk_alloc ?_ _)); refine blk_put (cs := #[.int .i64 a0_0, .int .i64 t186, .int .i64 a0_2, .int .i64 a0_3, .bool t187, .bool t188, .bool a0_6, .bool false]) ?_ 7 _ rfl; (with_reducible repeat (first | refine blk_drewN ?_ _ | refine blk_drew ?_ | refine blk_alloc ?_ _)); refine blk_put (cs := #[.int .i64 a0_0, .int .i64 t186, .int .i64 a0_2, .int .i64 a0_3, .bool t187, .bool t188, .bool false, .bool false]) ?_ 6 _ rfl; (with_reducible repeat (first | refine blk_drewN ?_ _ | refine blk_drew ?_ | refine blk_alloc ?_ _)); refine blk_put (cs := #[.int .i64 a0_0, .int .i64 t186, .int .i64 a0_2, .int .i64 a0_3, .bool t187, .bool false, .bool false, .bool false]) ?_ 5 _ rfl; (with_reducible repeat (first | refine blk_drewN ?_ _ | refine blk_drew ?_ | refine blk_alloc ?_ _)); refine blk_put (cs := #[.int .i64 a0_0, .int .i64 t186, .int .i64 a0_2, .int .i64 a0_3, .bool false, .bool false, .bool false, .bool false]) ?_ 4 _ rfl; (with_reducible repeat (first | refine blk_drewN ?_ _ | refine blk_drew ?_ | refine blk_alloc ?_ _)); refine blk_put (cs := #[.int .i64 a0_0, .int .i64 t186, .int .i64 a0_2, .int .i64 0, .bool false, .bool false, .bool false, .bool false]) ?_ 3 _ rfl; (with_reducible repeat (first | refine blk_drewN ?_ _ | refine blk_drew ?_ | refine blk_alloc ?_ _)); refine blk_put (cs := #[.int .i64 a0_0, .int .i64 t186, .int .i64 0, .int .i64 0, .bool false, .bool false, .bool false, .bool false]) ?_ 2 _ rfl; (with_reducible repeat (first | refine blk_drewN ?_ _ | refine blk_drew ?_ | refine blk_alloc ?_ _)); refine blk_put (cs := #[.int .i64 a0_0, .int .i64 0, .int .i64 0, .int .i64 0, .bool false, .bool false, .bool false, .bool false]) ?_ 1 _ rfl; (with_reducible repeat (first | refine blk_drewN ?_ _ | refine blk_drew ?_ | refine blk_alloc ?_ _)); refine blk_put (cs := #[.int .i64 0, .int .i64 0, .int .i64 0, .int .i64 0, .bool false, .bool false, .bool false, .bool false]) ?_ 0 _ rfl; (with_reducible repeat (first | refine blk_drewN ?_ _ | refine blk_drew ?_ | refine blk_alloc ?_ _)); refine blk_far ?_ NB185_184.out _; (with_reducible repeat (first | refine blk_drewN ?_ _ | refine blk_drew ?_ | refine blk_alloc ?_ _)); refine blk_far ?_ NB185_184.out _; (with_reducible repeat (first | refine blk_drewN ?_ _ | refine blk_drew ?_ | refine blk_alloc ?_ _)); refine blk_far ?_ NB185_184.out _; (with_reducible repeat (first | refine blk_drewN ?_ _ | refine blk_drew ?_ | refine blk_alloc ?_ _)); exact BK185.out) Try.underlying38 rfl (by kernel_rfl)) rfl ?_
 exact ⟨rt, bw HB.out⟩

/-! ### spec_Join: function 82 -/
def spec_Join.f (a0 : Int) (a1 : Int) : Option (Int) := (spec_Byte.f a0).bind fun t304 => ((spec_Byte.f a1).bind fun t305 => (some (wrap64 (t304 + (wrap64 (256 * t305))))))
set_option maxHeartbeats 8000000 in
set_option maxRecDepth 100000 in
theorem spec_Join.calls (a0 : Int) (a1 : Int) (r : Int) (w : World) (h : spec_Join.f a0 a1 = some r) :
  Calls Try.prog 82 #[.int .i64 a0, .int .i64 a1] w fun e w' => e = .returned (.int .i64 r) ∧ Drawn0 w w' := by
 have H : ((spec_Byte.f a0).bind fun t304 => ((spec_Byte.f a1).bind fun t305 => (some (wrap64 (t304 + (wrap64 (256 * t305))))))) = some r := h
 clear h
 replace H := Option.bind_eq_some_iff.mp H
 obtain ⟨t304, A30, H⟩ := H
 replace H : ((spec_Byte.f a1).bind fun t305 => (some (wrap64 (t304 + (wrap64 (256 * t305)))))) = some r := H
 have A3 := Aside0.mk A30
 clear A30
 replace H := Option.bind_eq_some_iff.mp H
 obtain ⟨t305, A40, H⟩ := H
 replace H : (some (wrap64 (t304 + (wrap64 (256 * t305))))) = some r := H
 have A4 := Aside0.mk A40
 clear A40
 obtain rfl := Option.some.inj H
 go_enter Try.func82, Try.ntmps82
 go_wp2_with (first | ((with_reducible refine gate_callee (f := 68) rfl ?_); refine goesM_ (some 6) rfl rfl Try.func68 #[.int .i64 a0] ?_; (with_reducible refine (spec_Byte.calls a0 t304 _ A3.out).mono ?_); rintro e w' ⟨rfl, ⟨nd, rfl⟩⟩; refine ⟨_, rfl, ?_⟩) | ((with_reducible refine gate_callee (f := 68) rfl ?_); refine goesM_ (some 8) rfl rfl Try.func68 #[.int .i64 a1] ?_; (with_reducible refine (spec_Byte.calls a1 t305 _ A4.out).mono ?_); rintro e w' ⟨rfl, ⟨nd, rfl⟩⟩; refine ⟨_, rfl, ?_⟩))
 go_ret
 exact ⟨by first | rfl | (simp; done) | (simp [*]; done), by repeat (first | exact Drawn0.refl _ | apply Drawn0.step)⟩

/-! ### spec_Pull: function 95 -/
def spec_Pull.f (l0_0 : List Int) (a0_1 : Int) (a1_0 : Int) (a1_1 : Int) (a1_2 : Int) (a1_3 : Int) (a1_4 : Bool) (a1_5 : Bool) (a1_6 : Bool) (a1_7 : Bool) : Option (Int × Int × Int × Int × Bool × Bool × Bool × Bool × Int) := if (l0_0.length : Int) = 512 then ((spec_Byte.f (wrap64 (a1_2 + 1))).bind fun t309 => (if 0 ≤ (wrap64 (256 + t309)) then (if (wrap64 (256 + t309)) < (l0_0.length : Int) then ((spec_Byte.f (rd l0_0 (wrap64 (256 + t309)))).bind fun t311 => (some (a1_0, a1_1, t309, a1_3, a1_4, a1_5, a1_6, a1_7, t311))) else (none)) else (none))) else (some (a1_0, a1_1, a1_2, a1_3, a1_4, a1_5, a1_6, a1_7, 0))
def spec_Pull.T4 : Bool × List (List Nat × List Nat) := (true, [([], []), ([], []), ([1], [1]), ([], []), ([3], [3]), ([4], [4]), ([2, 5], [2, 5]), ([6], [6]), ([7], [7]), ([0, 8, 0], [0]), ([8, 9, 0, 1, 2, 3, 4, 5, 6, 7, 8, 9], [8])])
def spec_Pull.B4 : List Nat := [0, 0, 2, 0, 8, 24, 62, 126, 254, 511, 1023]
theorem spec_Pull.tab4 : rtab .any (opsOf Try.f95 4) = spec_Pull.T4 := by kernel_rfl
theorem spec_Pull.bits4 : waitsOk spec_Pull.T4.2 spec_Pull.B4 = true := by kernel_rfl
set_option maxHeartbeats 8000000 in
set_option maxRecDepth 100000 in
theorem spec_Pull.calls (A0_0 : Option Addr) (c0_0 : Nat) (l0_0 : List Int) (a0_1 : Int) (a1_0 : Int) (a1_1 : Int) (a1_2 : Int) (a1_3 : Int) (a1_4 : Bool) (a1_5 : Bool) (a1_6 : Bool) (a1_7 : Bool) (r1 : Int) (r2 : Int) (r3 : Int) (r4 : Int) (r5 : Bool) (r6 : Bool) (r7 : Bool) (r8 : Bool) (r9 : Int) (w : World) (hr0_0 : Kd.C (Kd.int .i64) w A0_0 l0_0.length l0_0) (hc0_0 : l0_0.length ≤ c0_0) (h : spec_Pull.f l0_0 a0_1 a1_0 a1_1 a1_2 a1_3 a1_4 a1_5 a1_6 a1_7 = some (r1, r2, r3, r4, r5, r6, r7, r8, r9)) :
  Calls Try.prog 95 #[.agg #[.slice A0_0 l0_0.length c0_0, .int .i64 a0_1], .agg #[.int .i64 a1_0, .int .i64 a1_1, .int .i64 a1_2, .int .i64 a1_3, .bool a1_4, .bool a1_5, .bool a1_6, .bool a1_7]] w fun e w' => e = .returned (.tuple #[.agg #[.int .i64 r1, .int .i64 r2, .int .i64 r3, .int .i64 r4, .bool r5, .bool r6, .bool r7, .bool r8], .int .i64 r9]) ∧ Below w.heap.size w w' := by
 have hu37 := Try.underlying37
 have hu38 := Try.underlying38
 have HR0_0 := Aside0.mk hr0_0
 have HC0_0 := Aside0.mk hc0_0
 clear hr0_0 hc0_0
 have HB := Aside0.mk (Below.refl w.heap.size w)
 have H : (if (l0_0.length : Int) = 512 then ((spec_Byte.f (wrap64 (a1_2 + 1))).bind fun t309 => (if 0 ≤ (wrap64 (256 + t309)) then (if (wrap64 (256 + t309)) < (l0_0.length : Int) then ((spec_Byte.f (rd l0_0 (wrap64 (256 + t309)))).bind fun t311 => (some (a1_0, a1_1, t309, a1_3, a1_4, a1_5, a1_6, a1_7, t311))) else (none)) else (none))) else (some (a1_0, a1_1, a1_2, a1_3, a1_4, a1_5, a1_6, a1_7, 0))) = some (r1, r2, r3, r4, r5, r6, r7, r8, r9) := h
 clear h
 by_cases c3 : (l0_0.length : Int) = 512
 ·rw [if_pos c3] at H
  have c3b0 : ((l0_0.length : Int) == 512) = true := beq_iff_eq.mpr c3
  have c3b1 : ((l0_0.length : Int) != 512) = false := bne_eq_false_iff_eq.mpr c3
  clear c3
  replace H := Option.bind_eq_some_iff.mp H
  obtain ⟨t309, A40, H⟩ := H
  replace H : (if 0 ≤ (wrap64 (256 + t309)) then (if (wrap64 (256 + t309)) < (l0_0.length : Int) then ((spec_Byte.f (rd l0_0 (wrap64 (256 + t309)))).bind fun t311 => (some (a1_0, a1_1, t309, a1_3, a1_4, a1_5, a1_6, a1_7, t311))) else (none)) else (none)) = some (r1, r2, r3, r4, r5, r6, r7, r8, r9) := H
  have A4 := Aside0.mk A40
  clear A40
  obtain ⟨ji5, hji5⟩ : ∃ j_ : Int, (wrap64 (256 + t309)) = j_ := ⟨_, rfl⟩
  replace H : (if 0 ≤ (ji5) then (if (ji5) < (l0_0.length : Int) then ((spec_Byte.f (rd l0_0 (ji5))).bind fun t311 => (some (a1_0, a1_1, t309, a1_3, a1_4, a1_5, a1_6, a1_7, t311))) else (none)) else (none)) = some (r1, r2, r3, r4, r5, r6, r7, r8, r9) := by first | (rw [hji5] at H; exact H) | (simp only [hji5] at H ⊢; exact H)
  (try rw [hji5] at A4)
  have hji5w : (IntKind.i64.wrap (256 + t309)) = ji5 := (i64_w _).trans hji5
  by_cases c6 : 0 ≤ (ji5)
  ·rw [if_pos c6] at H
   have c6b0 : decide (0 ≤ (ji5)) = true := decide_eq_true c6
   clear c6
   by_cases c7 : (ji5) < (l0_0.length : Int)
   ·rw [if_pos c7] at H
    have c7b0 : decide ((ji5) < (l0_0.length : Int)) = true := decide_eq_true c7
    clear c7
    replace H := Option.bind_eq_some_iff.mp H
    obtain ⟨t311, A80, H⟩ := H
    replace H : (some (a1_0, a1_1, t309, a1_3, a1_4, a1_5, a1_6, a1_7, t311)) = some (r1, r2, r3, r4, r5, r6, r7, r8, r9) := H
    have A8 := Aside0.mk A80
    clear A80
    simp only [Option.some.injEq, Prod.mk.injEq] at H
    obtain ⟨rfl, rfl, rfl, rfl, rfl, rfl, rfl, rfl, rfl⟩ := H
    go_enter Try.func95, Try.ntmps95
    try go_wp2_with (first | ((with_reducible refine gate_dst (N := 2) rfl ?_); refine bx (N := 2) (cs := #[.slice A0_0 l0_0.length c0_0, .int .i64 a0_1]) (t := 37) ?_; intro gb306 hg w9 hbox hb; have n0_ := Aside0.mk (below_step (bw HB.out) hb); have n1_ := Aside0.mk (hbox); have n2_ := Aside0.mk ((gs hg (bw HB.out))); have n3_ := Aside0.mk ((gs hg (bw HB.out))); clear HB; have HB := n0_; have BK306 := n1_; have GW306 := n2_; have GE306 := n3_; clear n0_ n1_ n2_ n3_; clear hb hbox hg) | ((with_reducible refine gate_dst (N := 3) rfl ?_); refine bx (N := 3) (cs := #[.int .i64 a1_0, .int .i64 a1_1, .int .i64 a1_2, .int .i64 a1_3, .bool a1_4, .bool a1_5, .bool a1_6, .bool a1_7]) (t := 38) ?_; intro gb307 hg w10 hbox hb; have n0_ := Aside0.mk (blk_below (g := gb306) (o := .cells #[.slice A0_0 l0_0.length c0_0, .int .i64 a0_1] 37 (0, 0)) (kb BK306.out) hb); have n1_ := Aside0.mk (below_step (bw HB.out) hb); have n2_ := Aside0.mk (hbox); have n3_ := Aside0.mk ((gs hg (bw HB.out))); have n4_ := Aside0.mk ((gs hg (bw HB.out))); have n5_ := Aside0.mk ((ga hg BK306.out)); have n6_ := Aside0.mk ((gc hg BK306.out)); clear BK306; clear HB; have BK306 := n0_; have HB := n1_; have BK307 := n2_; have GW307 := n3_; have GE307 := n4_; have NB306_307 := n5_; have NB307_306 := n6_; clear n0_ n1_ n2_ n3_ n4_ n5_ n6_; clear hb hbox hg) | ((with_reducible refine gate_dst (N := 4) rfl ?_); refine bx (N := 4) (cs := #[.int .i64 0, .int .i64 0, .int .i64 0, .int .i64 0, .bool false, .bool false, .bool false, .bool false]) (t := 38) ?_; intro gb308 hg w11 hbox hb; have n0_ := Aside0.mk (blk_below (g := gb306) (o := .cells #[.slice A0_0 l0_0.length c0_0, .int .i64 a0_1] 37 (0, 0)) (kb BK306.out) hb); have n1_ := Aside0.mk (blk_below (g := gb307) (o := .cells #[.int .i64 a1_0, .int .i64 a1_1, .int .i64 a1_2, .int .i64 a1_3, .bool a1_4, .bool a1_5, .bool a1_6, .bool a1_7] 38 (0, 0)) (kb BK307.out) hb); have n2_ := Aside0.mk (below_step (bw HB.out) hb); have n3_ := Aside0.mk (hbox); have n4_ := Aside0.mk ((gs hg (bw HB.out))); have n5_ := Aside0.mk ((gs hg (bw HB.out))); have n6_ := Aside0.mk ((ga hg BK306.out)); have n7_ := Aside0.mk ((gc hg BK306.out)); have n8_ := Aside0.mk ((ga hg BK307.out)); have n9_ := Aside0.mk ((gc hg BK307.out)); clear BK306; clear BK307; clear HB; have BK306 := n0_; have BK307 := n1_; have HB := n2_; have BK308 := n3_; have GW308 := n4_; have GE308 := n5_; have NB306_308 := n6_; have NB308_306 := n7_; have NB307_308 := n8_; have NB308_307 := n9_; clear n0_ n1_ n2_ n3_ n4_ n5_ n6_ n7_ n8_ n9_; clear hb hbox hg; have hnb12 := NB306_307.out; have hnc12 := NB307_306.out; have hnb13 := NB306_308.out; have hnc13 := NB308_306.out; have hcz14_0 : w11.cell? ⟨gb306, 0, none⟩ = some (.slice A0_0 l0_0.length c0_0) := (blk_cell BK306.out 0).trans rfl; have hcz14_1 : w11.cell? ⟨gb306, 1, none⟩ = some (.int .i64 a0_1) := (blk_cell BK306.out 1).trans rfl; have hfz14_0 := blk_frozen BK306.out 0; have hfz14_1 := blk_frozen BK306.out 1; have hnb15 := NB307_308.out; have hnc15 := NB308_307.out; have hcz16_0 : w11.cell? ⟨gb307, 0, none⟩ = some (.int .i64 a1_0) := (blk_cell BK307.out 0).trans rfl; have hcz16_1 : w11.cell? ⟨gb307, 1, none⟩ = some (.int .i64 a1_1) := (blk_cell BK307.out 1).trans rfl; have hcz16_2 : w11.cell? ⟨gb307, 2, none⟩ = some (.int .i64 a1_2) := (blk_cell BK307.out 2).trans rfl; have hcz16_3 : w11.cell? ⟨gb307, 3, none⟩ = some (.int .i64 a1_3) := (blk_cell BK307.out 3).trans rfl; have hcz16_4 : w11.cell? ⟨gb307, 4, none⟩ = some (.bool a1_4) := (blk_cell BK307.out 4).trans rfl; have hcz16_5 : w11.cell? ⟨gb307, 5, none⟩ = some (.bool a1_5) := (blk_cell BK307.out 5).trans rfl; have hcz16_6 : w11.cell? ⟨gb307, 6, none⟩ = some (.bool a1_6) := (blk_cell BK307.out 6).trans rfl; have hcz16_7 : w11.cell? ⟨gb307, 7, none⟩ = some (.bool a1_7) := (blk_cell BK307.out 7).trans rfl; have hfz16_0 := blk_frozen BK307.out 0; have hfz16_1 := blk_frozen BK307.out 1; have hfz16_2 := blk_frozen BK307.out 2; have hfz16_3 := blk_frozen BK307.out 3; have hfz16_4 := blk_frozen BK307.out 4; have hfz16_5 := blk_frozen BK307.out 5; have hfz16_6 := blk_frozen BK307.out 6; have hfz16_7 := blk_frozen BK307.out 7) | ((with_reducible refine gate_callee (f := 68) rfl ?_); refine goesM_ (some 14) rfl rfl Try.func68 #[.int .i64 (wrap64 (a1_2 + 1))] ?_; (with_reducible refine (spec_Byte.calls (wrap64 (a1_2 + 1)) t309 _ A4.out).mono ?_); rintro e w' ⟨rfl, ⟨nd, rfl⟩⟩; refine ⟨_, rfl, ?_⟩; (try (rw [drewN_self w11]; generalize hq_ : World.drewN w11 _ = w11; have n0_ : Aside0 (w11.heap[gb306]? = some (.cells #[.slice A0_0 l0_0.length c0_0, .int .i64 a0_1] 37 (0, 0))) := ⟨by rw [← hq_]; exact (kb BK306.out)⟩; have n1_ : Aside0 (w11.heap[gb307]? = some (.cells #[.int .i64 a1_0, .int .i64 a1_1, .int .i64 a1_2, .int .i64 a1_3, .bool a1_4, .bool a1_5, .bool a1_6, .bool a1_7] 38 (0, 0))) := ⟨by rw [← hq_]; exact (kb BK307.out)⟩; have n2_ : Aside0 (w11.heap[gb308]? = some (.cells #[.int .i64 0, .int .i64 0, .int .i64 0, .int .i64 0, .bool false, .bool false, .bool false, .bool false] 38 (0, 0))) := ⟨by rw [← hq_]; exact (kb BK308.out)⟩; have n3_ : Aside0 (Below w.heap.size w w11) := ⟨by rw [← hq_]; exact (bw HB.out)⟩; clear BK306 BK307 BK308 HB hq_; have BK306 := n0_; have BK307 := n1_; have BK308 := n2_; have HB := n3_; clear n0_ n1_ n2_ n3_; (try (have hcz14_0 : w11.cell? ⟨gb306, 0, none⟩ = some (.slice A0_0 l0_0.length c0_0) := (blk_cell BK306.out 0).trans rfl)); (try (have hcz14_1 : w11.cell? ⟨gb306, 1, none⟩ = some (.int .i64 a0_1) := (blk_cell BK306.out 1).trans rfl)); (try (have hfz14_0 := blk_frozen BK306.out 0)); (try (have hfz14_1 := blk_frozen BK306.out 1)); (try (have hcz16_0 : w11.cell? ⟨gb307, 0, none⟩ = some (.int .i64 a1_0) := (blk_cell BK307.out 0).trans rfl)); (try (have hcz16_1 : w11.cell? ⟨gb307, 1, none⟩ = some (.int .i64 a1_1) := (blk_cell BK307.out 1).trans rfl)); (try (have hcz16_2 : w11.cell? ⟨gb307, 2, none⟩ = some (.int .i64 a1_2) := (blk_cell BK307.out 2).trans rfl)); (try (have hcz16_3 : w11.cell? ⟨gb307, 3, none⟩ = some (.int .i64 a1_3) := (blk_cell BK307.out 3).trans rfl)); (try (have hcz16_4 : w11.cell? ⟨gb307, 4, none⟩ = some (.bool a1_4) := (blk_cell BK307.out 4).trans rfl)); (try (have hcz16_5 : w11.cell? ⟨gb307, 5, none⟩ = some (.bool a1_5) := (blk_cell BK307.out 5).trans rfl)); (try (have hcz16_6 : w11.cell? ⟨gb307, 6, none⟩ = some (.bool a1_6) := (blk_cell BK307.out 6).trans rfl)); (try (have hcz16_7 : w11.cell? ⟨gb307, 7, none⟩ = some (.bool a1_7) := (blk_cell BK307.out 7).trans rfl)); (try (have hfz16_0 := blk_frozen BK307.out 0)); (try (have hfz16_1 := blk_frozen BK307.out 1)); (try (have hfz16_2 := blk_frozen BK307.out 2)); (try (have hfz16_3 := blk_frozen BK307.out 3)); (try (have hfz16_4 := blk_frozen BK307.out 4)); (try (have hfz16_5 := blk_frozen BK307.out 5)); (try (have hfz16_6 := blk_frozen BK307.out 6)); (try (have hfz16_7 := blk_frozen BK307.out 7))))))
    have n0_ : Aside0 ((w11.setCell ⟨gb307, 2, none⟩ (.int .i64 t309)).heap[gb306]? = some (.cells #[.slice A0_0 l0_0.length c0_0, .int .i64 a0_1] 37 (0, 0))) := ⟨kf BK306.out⟩
    have n1_ : Aside0 ((w11.setCell ⟨gb307, 2, none⟩ (.int .i64 t309)).heap[gb307]? = some (.cells #[.int .i64 a1_0, .int .i64 a1_1, .int .i64 t309, .int .i64 a1_3, .bool a1_4, .bool a1_5, .bool a1_6, .bool a1_7] 38 (0, 0))) := ⟨kt BK307.out⟩
    have n2_ : Aside0 ((w11.setCell ⟨gb307, 2, none⟩ (.int .i64 t309)).heap[gb308]? = some (.cells #[.int .i64 0, .int .i64 0, .int .i64 0, .int .i64 0, .bool false, .bool false, .bool false, .bool false] 38 (0, 0))) := ⟨kf BK308.out⟩
    have n3_ : Aside0 (Below w.heap.size w (w11.setCell ⟨gb307, 2, none⟩ (.int .i64 t309))) := ⟨bw HB.out⟩
    (try clear BK306); (try clear BK307); (try clear BK308); (try clear HB)
    generalize (w11.setCell ⟨gb307, 2, none⟩ (.int .i64 t309)) = w17 at n0_ n1_ n2_ n3_ ⊢
    have BK306 := n0_; have BK307 := n1_; have BK308 := n2_; have HB := n3_; clear n0_ n1_ n2_ n3_
    have n0_ := Aside0.mk (blk_drew BK306.out)
    have n1_ := Aside0.mk (blk_drew BK307.out)
    have n2_ := Aside0.mk (blk_drew BK308.out)
    have n3_ := Aside0.mk (below_drew1 HB.out)
    clear BK306; clear BK307; clear BK308; clear HB; have BK306 := n0_; have BK307 := n1_; have BK308 := n2_; have HB := n3_; clear n0_ n1_ n2_ n3_
    have p310 : 0 ≤ ((ji5) : Int) := dt
    have q310 : (ji5) < (l0_0.length : Int) := dt
    obtain ⟨ad310, e310, hx310_0⟩ := Kd.at_int HR0_0.out (ji5) p310 q310
    have hw310_0 := hx310_0
    cases e310
    replace hx310_0 := (HB.out.cell (World.block_lt_of_cell? w _ hx310_0)).trans hx310_0
    replace p310 := eq_true p310
    replace q310 := eq_true q310
    refine start_ (n := 11) (S := fun w' => w'.cell? ⟨gb307, 0, none⟩ = some (.int .i64 a1_0) ∧ w'.cell? ⟨gb307, 1, none⟩ = some (.int .i64 a1_1) ∧ w'.cell? ⟨gb307, 2, none⟩ = some (.int .i64 t309) ∧ w'.cell? ⟨gb307, 3, none⟩ = some (.int .i64 a1_3) ∧ w'.cell? ⟨gb307, 4, none⟩ = some (.bool a1_4) ∧ w'.cell? ⟨gb307, 5, none⟩ = some (.bool a1_5) ∧ w'.cell? ⟨gb307, 6, none⟩ = some (.bool a1_6) ∧ w'.cell? ⟨gb307, 7, none⟩ = some (.bool a1_7) ∧ w'.cell? ⟨gb306, 0, none⟩ = some (.slice (some ad310) l0_0.length c0_0) ∧ w'.cell? ⟨gb306, 1, none⟩ = some (.int .i64 a0_1) ∧ w'.cell? (ad310.add ((ji5)).toNat) = some (.int .i64 (rd l0_0 (ji5)))) (ds := []) #[false, false, false, false, false, false, false, false, false, false, false] (by kernel_rfl) rfl rfl ⟨(blk_cell BK307.out 0).trans rfl, (blk_cell BK307.out 1).trans rfl, (blk_cell BK307.out 2).trans rfl, (blk_cell BK307.out 3).trans rfl, (blk_cell BK307.out 4).trans rfl, (blk_cell BK307.out 5).trans rfl, (blk_cell BK307.out 6).trans rfl, (blk_cell BK307.out 7).trans rfl, (blk_cell BK306.out 0).trans rfl, (blk_cell BK306.out 1).trans rfl, ((HB.out.cell (World.block_lt_of_cell? w _ hw310_0)).trans hw310_0)⟩ (fun hHeld => ?_); refine with_tabW spec_Pull.tab4 spec_Pull.bits4 (fun HT_ HW_ => ?_)
    generalize w17.drew = w18 at BK306 BK307 BK308 HB hx310_0 hHeld ⊢
    refine pure_ (i := 1) (N := some 17) (v := ?_) (a' := ?_) #[false, true, false, false, false, false, false, false, false, false, false] rfl rfl (any_of HT_.out (by kernel_rfl)) (fun _ _ _ h => h) (Or.inl ⟨by rfl, ?_⟩) ?_ ?_
    rotate_left
    ·intro w'
     go_simp
     with_reducible rfl
    rotate_left
    ·simp only [Act.put, List.setIfInBounds_toArray, List.set_cons_zero, List.set_cons_succ, i64_w, i32_w]
     rfl
    refine pure_ (i := 3) (N := some 19) (v := ?_) (a' := ?_) #[false, true, false, true, false, false, false, false, false, false, false] rfl rfl (any_of HT_.out (by kernel_rfl)) (fun _ _ _ h => h) (Or.inl ⟨by rfl, ?_⟩) ?_ ?_
    rotate_left
    ·intro w'
     go_simp
     with_reducible rfl
    rotate_left
    ·simp only [Act.put, List.setIfInBounds_toArray, List.set_cons_zero, List.set_cons_succ, i64_w, i32_w]
     rfl
    refine take_ (i := 0) (N := some 16) (v := ?_) (a' := ?_) #[true, true, false, true, false, false, false, false, false, false, false] rfl rfl (take_ofW HT_.out HW_.out (by kernel_rfl)) (fun _ _ _ h => h) (Or.inl ⟨by rfl, ?_⟩) hHeld ?_ ?_
    rotate_left
    ·rintro w' ⟨s0, s1, s2, s3, s4, s5, s6, s7, s8, s9, s10⟩
     go_simp
     with_reducible rfl
    rotate_left
    ·simp only [Act.put, List.setIfInBounds_toArray, List.set_cons_zero, List.set_cons_succ, i64_w, i32_w]
     rfl
    refine take_ (i := 2) (N := some 18) (v := ?_) (a' := ?_) #[true, true, true, true, false, false, false, false, false, false, false] rfl rfl (take_ofW HT_.out HW_.out (by kernel_rfl)) (fun _ _ _ h => h) (Or.inl ⟨by rfl, ?_⟩) hHeld ?_ ?_
    rotate_left
    ·rintro w' ⟨s0, s1, s2, s3, s4, s5, s6, s7, s8, s9, s10⟩
     go_simp
     with_reducible rfl
    rotate_left
    ·simp only [Act.put, List.setIfInBounds_toArray, List.set_cons_zero, List.set_cons_succ, i64_w, i32_w]
     rfl
    refine take_ (i := 4) (N := some 20) (v := ?_) (a' := ?_) #[true, true, true, true, true, false, false, false, false, false, false] rfl rfl (take_ofW HT_.out HW_.out (by kernel_rfl)) (fun _ _ _ h => h) (Or.inl ⟨by rfl, ?_⟩) hHeld ?_ ?_
    rotate_left
    ·rintro w' ⟨s0, s1, s2, s3, s4, s5, s6, s7, s8, s9, s10⟩
     go_simp
     with_reducible rfl
    rotate_left
    ·simp only [Act.put, List.setIfInBounds_toArray, List.set_cons_zero, List.set_cons_succ, i64_w, i32_w]
     rfl
    refine pure_ (i := 5) (N := some 21) (v := ?_) (a' := ?_) #[true, true, true, true, true, true, false, false, false, false, false] rfl rfl (any_of HT_.out (by kernel_rfl)) (fun _ _ _ h => h) (Or.inl ⟨by rfl, ?_⟩) ?_ ?_
    rotate_left
    ·intro w'
     go_simp
     with_reducible rfl
    rotate_left
    ·simp only [Act.put, List.setIfInBounds_toArray, List.set_cons_zero, List.set_cons_succ, i64_w, i32_w]
     rfl
    refine pure_ (i := 6) (N := some 22) (v := ?_) (a' := ?_) #[true, true, true, true, true, true, true, false, false, false, false] rfl rfl (any_of HT_.out (by kernel_rfl)) (fun _ _ _ h => h) (Or.inl ⟨by rfl, ?_⟩) ?_ ?_
    rotate_left
    ·intro w'
     go_simp
     with_reducible rfl
    rotate_left
    ·simp only [Act.put, List.setIfInBounds_toArray, List.set_cons_zero, List.set_cons_succ, i64_w, i32_w]
     rfl
    refine take_ (i := 7) (N := some 23) (v := ?_) (a' := ?_) #[true, true, true, true, true, true, true, true, false, false, false] rfl rfl (take_ofW HT_.out HW_.out (by kernel_rfl)) (fun _ _ _ h => h) (Or.inl ⟨by rfl, ?_⟩) hHeld ?_ ?_
    rotate_left
    ·rintro w' ⟨s0, s1, s2, s3, s4, s5, s6, s7, s8, s9, s10⟩
     go_simp
     with_reducible rfl
    rotate_left
    ·simp only [Act.put, List.setIfInBounds_toArray, List.set_cons_zero, List.set_cons_succ, i64_w, i32_w]
     rfl
    refine one_ (i := 8) (N := some 24) #[true, true, true, true, true, true, true, true, true, false, false] rfl rfl (one_of HT_.out (by kernel_rfl)) (by decide) (fun K hK => ?_)
    refine goes_ Try.func68 (by kernel_rfl) rfl #[.int .i64 (rd l0_0 (ji5))] (by rfl) rfl rfl (by (try simp only [List.map_toArray, List.map_cons, List.map_nil]); first | done | (simp only [hji5]; rfl) | rfl | (simp only [List.length_drop, List.length_take]; rfl)) ?_
    with_reducible refine (spec_Byte.calls (rd l0_0 (ji5)) t311 _ A8.out).mono ?_
    rintro e w' ⟨rfl, ⟨nd, rfl⟩⟩
    refine ⟨_, rfl, ?_⟩
    refine hK.out _ _ ⟨(blk_cell BK307.out 0).trans rfl, (blk_cell BK307.out 1).trans rfl, (blk_cell BK307.out 2).trans rfl, (blk_cell BK307.out 3).trans rfl, (blk_cell BK307.out 4).trans rfl, (blk_cell BK307.out 5).trans rfl, (blk_cell BK307.out 6).trans rfl, (blk_cell BK307.out 7).trans rfl, (blk_cell BK306.out 0).trans rfl, (blk_cell BK306.out 1).trans rfl, ((HB.out.cell (World.block_lt_of_cell? w _ hw310_0)).trans hw310_0)⟩ (fun hHeld => ?_)
    clear hK K
    refine norm_ (a' := ?_) ?_ ?_
    rotate_left
    ·show Act.put _ (some 24) _ = _
     simp only [Act.put, List.setIfInBounds_toArray, List.set_cons_zero, List.set_cons_succ, i64_w, i32_w]
     rfl
    refine one_ (i := 9) (N := none) #[true, true, true, true, true, true, true, true, true, true, false] rfl rfl (one_of HT_.out (by kernel_rfl)) (by decide) (fun K hK => ?_)
    have hs19 : w18.cell? ⟨gb308, 0, none⟩ = some (.int .i64 0) := (blk_cell BK308.out 0).trans rfl
    have hfs19 := blk_frozen BK308.out 0
    have hns19_0 := NB306_308.out
    have hns19_1 := NB307_308.out
    have hms19_0 := NB308_306.out
    have hms19_1 := NB308_307.out
    have hs20 : w18.cell? ⟨gb308, 1, none⟩ = some (.int .i64 0) := (blk_cell BK308.out 1).trans rfl
    have hfs20 := blk_frozen BK308.out 1
    have hns20_0 := NB306_308.out
    have hns20_1 := NB307_308.out
    have hms20_0 := NB308_306.out
    have hms20_1 := NB308_307.out
    have hs21 : w18.cell? ⟨gb308, 2, none⟩ = some (.int .i64 0) := (blk_cell BK308.out 2).trans rfl
    have hfs21 := blk_frozen BK308.out 2
    have hns21_0 := NB306_308.out
    have hns21_1 := NB307_308.out
    have hms21_0 := NB308_306.out
    have hms21_1 := NB308_307.out
    have hs22 : w18.cell? ⟨gb308, 3, none⟩ = some (.int .i64 0) := (blk_cell BK308.out 3).trans rfl
    have hfs22 := blk_frozen BK308.out 3
    have hns22_0 := NB306_308.out
    have hns22_1 := NB307_308.out
    have hms22_0 := NB308_306.out
    have hms22_1 := NB308_307.out
    have hs23 : w18.cell? ⟨gb308, 4, none⟩ = some (.bool false) := (blk_cell BK308.out 4).trans rfl
    have hfs23 := blk_frozen BK308.out 4
    have hns23_0 := NB306_308.out
    have hns23_1 := NB307_308.out
    have hms23_0 := NB308_306.out
    have hms23_1 := NB308_307.out
    have hs24 : w18.cell? ⟨gb308, 5, none⟩ = some (.bool false) := (blk_cell BK308.out 5).trans rfl
    have hfs24 := blk_frozen BK308.out 5
    have hns24_0 := NB306_308.out
    have hns24_1 := NB307_308.out
    have hms24_0 := NB308_306.out
    have hms24_1 := NB308_307.out
    have hs25 : w18.cell? ⟨gb308, 6, none⟩ = some (.bool false) := (blk_cell BK308.out 6).trans rfl
    have hfs25 := blk_frozen BK308.out 6
    have hns25_0 := NB306_308.out
    have hns25_1 := NB307_308.out
    have hms25_0 := NB308_306.out
    have hms25_1 := NB308_307.out
    have hs26 : w18.cell? ⟨gb308, 7, none⟩ = some (.bool false) := (blk_cell BK308.out 7).trans rfl
    have hfs26 := blk_frozen BK308.out 7
    have hns26_0 := NB306_308.out
    have hns26_1 := NB307_308.out
    have hms26_0 := NB308_306.out
    have hms26_1 := NB308_307.out
    refine skip_ (w1 := ?_) (by rfl) rfl ?_ ?_
    rotate_left
    ·go_simp
     rfl
    refine hK.out _ _ ⟨((cell_far (p := ⟨gb308, _, none⟩) NB307_308.out _).trans (((cell_far (p := ⟨gb308, _, none⟩) NB307_308.out _).trans (((cell_far (p := ⟨gb308, _, none⟩) NB307_308.out _).trans (((cell_far (p := ⟨gb308, _, none⟩) NB307_308.out _).trans (((cell_far (p := ⟨gb308, _, none⟩) NB307_308.out _).trans (((cell_far (p := ⟨gb308, _, none⟩) NB307_308.out _).trans (((cell_far (p := ⟨gb308, _, none⟩) NB307_308.out _).trans (((cell_far (p := ⟨gb308, _, none⟩) NB307_308.out _).trans (hHeld.1)))))))))))))))), ((cell_far (p := ⟨gb308, _, none⟩) NB307_308.out _).trans (((cell_far (p := ⟨gb308, _, none⟩) NB307_308.out _).trans (((cell_far (p := ⟨gb308, _, none⟩) NB307_308.out _).trans (((cell_far (p := ⟨gb308, _, none⟩) NB307_308.out _).trans (((cell_far (p := ⟨gb308, _, none⟩) NB307_308.out _).trans (((cell_far (p := ⟨gb308, _, none⟩) NB307_308.out _).trans (((cell_far (p := ⟨gb308, _, none⟩) NB307_308.out _).trans (((cell_far (p := ⟨gb308, _, none⟩) NB307_308.out _).trans (hHeld.2.1)))))))))))))))), ((cell_far (p := ⟨gb308, _, none⟩) NB307_308.out _).trans (((cell_far (p := ⟨gb308, _, none⟩) NB307_308.out _).trans (((cell_far (p := ⟨gb308, _, none⟩) NB307_308.out _).trans (((cell_far (p := ⟨gb308, _, none⟩) NB307_308.out _).trans (((cell_far (p := ⟨gb308, _, none⟩) NB307_308.out _).trans (((cell_far (p := ⟨gb308, _, none⟩) NB307_308.out _).trans (((cell_far (p := ⟨gb308, _, none⟩) NB307_308.out _).trans (((cell_far (p := ⟨gb308, _, none⟩) NB307_308.out _).trans (hHeld.2.2.1)))))))))))))))), ((cell_far (p := ⟨gb308, _, none⟩) NB307_308.out _).trans (((cell_far (p := ⟨gb308, _, none⟩) NB307_308.out _).trans (((cell_far (p := ⟨gb308, _, none⟩) NB307_308.out _).trans (((cell_far (p := ⟨gb308, _, none⟩) NB307_308.out _).trans (((cell_far (p := ⟨gb308, _, none⟩) NB307_308.out _).trans (((cell_far (p := ⟨gb308, _, none⟩) NB307_308.out _).trans (((cell_far (p := ⟨gb308, _, none⟩) NB307_308.out _).trans (((cell_far (p := ⟨gb308, _, none⟩) NB307_308.out _).trans (hHeld.2.2.2.1)))))))))))))))), ((cell_far (p := ⟨gb308, _, none⟩) NB307_308.out _).trans (((cell_far (p := ⟨gb308, _, none⟩) NB307_308.out _).trans (((cell_far (p := ⟨gb308, _, none⟩) NB307_308.out _).trans (((cell_far (p := ⟨gb308, _, none⟩) NB307_308.out _).trans (((cell_far (p := ⟨gb308, _, none⟩) NB307_308.out _).trans (((cell_far (p := ⟨gb308, _, none⟩) NB307_308.out _).trans (((cell_far (p := ⟨gb308, _, none⟩) NB307_308.out _).trans (((cell_far (p := ⟨gb308, _, none⟩) NB307_308.out _).trans (hHeld.2.2.2.2.1)))))))))))))))), ((cell_far (p := ⟨gb308, _, none⟩) NB307_308.out _).trans (((cell_far (p := ⟨gb308, _, none⟩) NB307_308.out _).trans (((cell_far (p := ⟨gb308, _, none⟩) NB307_308.out _).trans (((cell_far (p := ⟨gb308, _, none⟩) NB307_308.out _).trans (((cell_far (p := ⟨gb308, _, none⟩) NB307_308.out _).trans (((cell_far (p := ⟨gb308, _, none⟩) NB307_308.out _).trans (((cell_far (p := ⟨gb308, _, none⟩) NB307_308.out _).trans (((cell_far (p := ⟨gb308, _, none⟩) NB307_308.out _).trans (hHeld.2.2.2.2.2.1)))))))))))))))), ((cell_far (p := ⟨gb308, _, none⟩) NB307_308.out _).trans (((cell_far (p := ⟨gb308, _, none⟩) NB307_308.out _).trans (((cell_far (p := ⟨gb308, _, none⟩) NB307_308.out _).trans (((cell_far (p := ⟨gb308, _, none⟩) NB307_308.out _).trans (((cell_far (p := ⟨gb308, _, none⟩) NB307_308.out _).trans (((cell_far (p := ⟨gb308, _, none⟩) NB307_308.out _).trans (((cell_far (p := ⟨gb308, _, none⟩) NB307_308.out _).trans (((cell_far (p := ⟨gb308, _, none⟩) NB307_308.out _).trans (hHeld.2.2.2.2.2.2.1)))))))))))))))), ((cell_far (p := ⟨gb308, _, none⟩) NB307_308.out _).trans (((cell_far (p := ⟨gb308, _, none⟩) NB307_308.out _).trans (((cell_far (p := ⟨gb308, _, none⟩) NB307_308.out _).trans (((cell_far (p := ⟨gb308, _, none⟩) NB307_308.out _).trans (((cell_far (p := ⟨gb308, _, none⟩) NB307_308.out _).trans (((cell_far (p := ⟨gb308, _, none⟩) NB307_308.out _).trans (((cell_far (p := ⟨gb308, _, none⟩) NB307_308.out _).trans (((cell_far (p := ⟨gb308, _, none⟩) NB307_308.out _).trans (hHeld.2.2.2.2.2.2.2.1)))))))))))))))), ((cell_far (p := ⟨gb308, _, none⟩) NB306_308.out _).trans (((cell_far (p := ⟨gb308, _, none⟩) NB306_308.out _).trans (((cell_far (p := ⟨gb308, _, none⟩) NB306_308.out _).trans (((cell_far (p := ⟨gb308, _, none⟩) NB306_308.out _).trans (((cell_far (p := ⟨gb308, _, none⟩) NB306_308.out _).trans (((cell_far (p := ⟨gb308, _, none⟩) NB306_308.out _).trans (((cell_far (p := ⟨gb308, _, none⟩) NB306_308.out _).trans (((cell_far (p := ⟨gb308, _, none⟩) NB306_308.out _).trans (hHeld.2.2.2.2.2.2.2.2.1)))))))))))))))), ((cell_far (p := ⟨gb308, _, none⟩) NB306_308.out _).trans (((cell_far (p := ⟨gb308, _, none⟩) NB306_308.out _).trans (((cell_far (p := ⟨gb308, _, none⟩) NB306_308.out _).trans (((cell_far (p := ⟨gb308, _, none⟩) NB306_308.out _).trans (((cell_far (p := ⟨gb308, _, none⟩) NB306_308.out _).trans (((cell_far (p := ⟨gb308, _, none⟩) NB306_308.out _).trans (((cell_far (p := ⟨gb308, _, none⟩) NB306_308.out _).trans (((cell_far (p := ⟨gb308, _, none⟩) NB306_308.out _).trans (hHeld.2.2.2.2.2.2.2.2.2.1)))))))))))))))), ((cell_far (p := ⟨gb308, _, none⟩) (by first | exact Nat.ne_of_lt (Nat.lt_of_lt_of_le (by have := World.block_lt_of_cell? _ _ hw310_0; first | rwa [add_block] at this | exact this) GW308.out) | (rw [add_block]; exact Nat.ne_of_lt (Nat.lt_of_lt_of_le (by have := World.block_lt_of_cell? _ _ hw310_0; first | rwa [add_block] at this | exact this) GW308.out)) | (show (Addr.add _ _).block ≠ _; rw [add_block]; exact Nat.ne_of_lt (Nat.lt_of_lt_of_le (by have := World.block_lt_of_cell? _ _ hw310_0; first | rwa [add_block] at this | exact this) GW308.out)) | (dsimp only; exact Nat.ne_of_lt (Nat.lt_of_lt_of_le (by have := World.block_lt_of_cell? _ _ hw310_0; first | rwa [add_block] at this | exact this) GW308.out))) _).trans (((cell_far (p := ⟨gb308, _, none⟩) (by first | exact Nat.ne_of_lt (Nat.lt_of_lt_of_le (by have := World.block_lt_of_cell? _ _ hw310_0; first | rwa [add_block] at this | exact this) GW308.out) | (rw [add_block]; exact Nat.ne_of_lt (Nat.lt_of_lt_of_le (by have := World.block_lt_of_cell? _ _ hw310_0; first | rwa [add_block] at this | exact this) GW308.out)) | (show (Addr.add _ _).block ≠ _; rw [add_block]; exact Nat.ne_of_lt (Nat.lt_of_lt_of_le (by have := World.block_lt_of_cell? _ _ hw310_0; first | rwa [add_block] at this | exact this) GW308.out)) | (dsimp only; exact Nat.ne_of_lt (Nat.lt_of_lt_of_le (by have := World.block_lt_of_cell? _ _ hw310_0; first | rwa [add_block] at this | exact this) GW308.out))) _).trans (((cell_far (p := ⟨gb308, _, none⟩) (by first | exact Nat.ne_of_lt (Nat.lt_of_lt_of_le (by have := World.block_lt_of_cell? _ _ hw310_0; first | rwa [add_block] at this | exact this) GW308.out) | (rw [add_block]; exact Nat.ne_of_lt (Nat.lt_of_lt_of_le (by have := World.block_lt_of_cell? _ _ hw310_0; first | rwa [add_block] at this | exact this) GW308.out)) | (show (Addr.add _ _).block ≠ _; rw [add_block]; exact Nat.ne_of_lt (Nat.lt_of_lt_of_le (by have := World.block_lt_of_cell? _ _ hw310_0; first | rwa [add_block] at this | exact this) GW308.out)) | (dsimp only; exact Nat.ne_of_lt (Nat.lt_of_lt_of_le (by have := World.block_lt_of_cell? _ _ hw310_0; first | rwa [add_block] at this | exact this) GW308.out))) _).trans (((cell_far (p := ⟨gb308, _, none⟩) (by first | exact Nat.ne_of_lt (Nat.lt_of_lt_of_le (by have := World.block_lt_of_cell? _ _ hw310_0; first | rwa [add_block] at this | exact this) GW308.out) | (rw [add_block]; exact Nat.ne_of_lt (Nat.lt_of_lt_of_le (by have := World.block_lt_of_cell? _ _ hw310_0; first | rwa [add_block] at this | exact this) GW308.out)) | (show (Addr.add _ _).block ≠ _; rw [add_block]; exact Nat.ne_of_lt (Nat.lt_of_lt_of_le (by have := World.block_lt_of_cell? _ _ hw310_0; first | rwa [add_block] at this | exact this) GW308.out)) | (dsimp only; exact Nat.ne_of_lt (Nat.lt_of_lt_of_le (by have := World.block_lt_of_cell? _ _ hw310_0; first | rwa [add_block] at this | exact this) GW308.out))) _).trans (((cell_far (p := ⟨gb308, _, none⟩) (by first | exact Nat.ne_of_lt (Nat.lt_of_lt_of_le (by have := World.block_lt_of_cell? _ _ hw310_0; first | rwa [add_block] at this | exact this) GW308.out) | (rw [add_block]; exact Nat.ne_of_lt (Nat.lt_of_lt_of_le (by have := World.block_lt_of_cell? _ _ hw310_0; first | rwa [add_block] at this | exact this) GW308.out)) | (show (Addr.add _ _).block ≠ _; rw [add_block]; exact Nat.ne_of_lt (Nat.lt_of_lt_of_le (by have := World.block_lt_of_cell? _ _ hw310_0; first | rwa [add_block] at this | exact this) GW308.out)) | (dsimp only; exact Nat.ne_of_lt (Nat.lt_of_lt_of_le (by have := World.block_lt_of_cell? _ _ hw310_0; first | rwa [add_block] at this | exact this) GW308.out))) _).trans (((cell_far (p := ⟨gb308, _, none⟩) (by first | exact Nat.ne_of_lt (Nat.lt_of_lt_of_le (by have := World.block_lt_of_cell? _ _ hw310_0; first | rwa [add_block] at this | exact this) GW308.out) | (rw [add_block]; exact Nat.ne_of_lt (Nat.lt_of_lt_of_le (by have := World.block_lt_of_cell? _ _ hw310_0; first | rwa [add_block] at this | exact this) GW308.out)) | (show (Addr.add _ _).block ≠ _; rw [add_block]; exact Nat.ne_of_lt (Nat.lt_of_lt_of_le (by have := World.block_lt_of_cell? _ _ hw310_0; first | rwa [add_block] at this | exact this) GW308.out)) | (dsimp only; exact Nat.ne_of_lt (Nat.lt_of_lt_of_le (by have := World.block_lt_of_cell? _ _ hw310_0; first | rwa [add_block] at this | exact this) GW308.out))) _).trans (((cell_far (p := ⟨gb308, _, none⟩) (by first | exact Nat.ne_of_lt (Nat.lt_of_lt_of_le (by have := World.block_lt_of_cell? _ _ hw310_0; first | rwa [add_block] at this | exact this) GW308.out) | (rw [add_block]; exact Nat.ne_of_lt (Nat.lt_of_lt_of_le (by have := World.block_lt_of_cell? _ _ hw310_0; first | rwa [add_block] at this | exact this) GW308.out)) | (show (Addr.add _ _).block ≠ _; rw [add_block]; exact Nat.ne_of_lt (Nat.lt_of_lt_of_le (by have := World.block_lt_of_cell? _ _ hw310_0; first | rwa [add_block] at this | exact this) GW308.out)) | (dsimp only; exact Nat.ne_of_lt (Nat.lt_of_lt_of_le (by have := World.block_lt_of_cell? _ _ hw310_0; first | rwa [add_block] at this | exact this) GW308.out))) _).trans (((cell_far (p := ⟨gb308, _, none⟩) (by first | exact Nat.ne_of_lt (Nat.lt_of_lt_of_le (by have := World.block_lt_of_cell? _ _ hw310_0; first | rwa [add_block] at this | exact this) GW308.out) | (rw [add_block]; exact Nat.ne_of_lt (Nat.lt_of_lt_of_le (by have := World.block_lt_of_cell? _ _ hw310_0; first | rwa [add_block] at this | exact this) GW308.out)) | (show (Addr.add _ _).block ≠ _; rw [add_block]; exact Nat.ne_of_lt (Nat.lt_of_lt_of_le (by have := World.block_lt_of_cell? _ _ hw310_0; first | rwa [add_block] at this | exact this) GW308.out)) | (dsimp only; exact Nat.ne_of_lt (Nat.lt_of_lt_of_le (by have := World.block_lt_of_cell? _ _ hw310_0; first | rwa [add_block] at this | exact this) GW308.out))) _).trans (hHeld.2.2.2.2.2.2.2.2.2.2))))))))))))))))⟩ (fun hHeld => ?_)
    clear hK K
    refine pure_ (i := 10) (N := some 5) (v := ?_) (a' := ?_) #[true, true, true, true, true, true, true, true, true, true, true] rfl rfl (any_of HT_.out (by kernel_rfl)) (fun _ _ _ h => h) (Or.inl ⟨by rfl, ?_⟩) ?_ ?_
    rotate_left
    ·intro w'
     go_simp
     with_reducible rfl
    rotate_left
    ·simp only [Act.put, List.setIfInBounds_toArray, List.set_cons_zero, List.set_cons_succ, i64_w, i32_w]
     rfl
    refine done_ (done_of HT_.out (by kernel_rfl)) ?_
    try go_wp2
    refine bodyPost_ret (results_ct rfl _ _ gb308 38 #[.int .i64 a1_0, .int .i64 a1_1, .int .i64 t309, .int .i64 a1_3, .bool a1_4, .bool a1_5, .bool a1_6, .bool a1_7] (0, 0) _ rfl (by (with_reducible repeat (first | refine blk_drewN ?_ _ | refine blk_drew ?_ | refine blk_alloc ?_ _)); refine blk_put (cs := #[.int .i64 a1_0, .int .i64 a1_1, .int .i64 t309, .int .i64 a1_3, .bool a1_4, .bool a1_5, .bool a1_6, .bool false]) ?_ 7 _ rfl; (with_reducible repeat (first | refine blk_drewN ?_ _ | refine blk_drew ?_ | refine blk_alloc ?_ _)); refine blk_put (cs := #[.int .i64 a1_0, .int .i64 a1_1, .int .i64 t309, .int .i64 a1_3, .bool a1_4, .bool a1_5, .bool false, .bool false]) ?_ 6 _ rfl; (with_reducible repeat (first | refine blk_drewN ?_ _ | refine blk_drew ?_ | refine blk_alloc ?_ _)); refine blk_put (cs := #[.int .i64 a1_0, .int .i64 a1_1, .int .i64 t309, .int .i64 a1_3, .bool a1_4, .bool false, .bool false, .bool false]) ?_ 5 _ rfl; (with_reducible repeat (first | refine blk_drewN ?_ _ | refine blk_drew ?_ | refine blk_alloc ?_ _)); refine blk_put (cs := #[.int .i64 a1_0, .int .i64 a1_1, .int .i64 t309, .int .i64 a1_3, .bool false, .bool false, .bool false, .bool false]) ?_ 4 _ rfl; (with_reducible repeat (first | refine blk_drewN ?_ _ | refine blk_drew ?_ | refine blk_alloc ?_ _)); refine blk_put (cs := #[.int .i64 a1_0, .int .i64 a1_1, .int .i64 t309, .int .i64 0, .bool false, .bool false, .bool false, .bool false]) ?_ 3 _ rfl; (with_reducible repeat (first | refine blk_drewN ?_ _ | refine blk_drew ?_ | refine blk_alloc ?_ _)); refine blk_put (cs := #[.int .i64 a1_0, .int .i64 a1_1, .int .i64 0, .int .i64 0, .bool false, .bool false, .bool false, .bool false]) ?_ 2 _ rfl; (with_reducible repeat (first | refine blk_drewN ?_ _ | refine blk_drew ?_ | refine blk_alloc ?_ _)); refine blk_put (cs := #[.int .i64 a1_0, .int .i64 0, .int .i64 0, .int .i64 0, .bool false, .bool false, .bool false, .bool false]) ?_ 1 _ rfl; (with_reducible repeat (first | refine blk_drewN ?_ _ | refine blk_drew ?_ | refine blk_alloc ?_ _)); refine blk_put (cs := #[.int .i64 0, .int .i64 0, .int .i64 0, .int .i64 0, .bool false, .bool false, .bool false, .bool false]) ?_ 0 _ rfl; (with_reducible repeat (first | refine blk_drewN ?_ _ | refine blk_drew ?_ | refine blk_alloc ?_ _)); exact BK308.out) Try.underlying38 rfl (by kernel_rfl)) rfl ?_
    exact ⟨by first | rfl | (simp [errW_none, errW_some] <;> rfl) | (simp only [← hji5]; first | rfl | (simp [errW_none, errW_some] <;> rfl)) | (simp [*, errW_none, errW_some] <;> rfl), bw HB.out⟩
   ·rw [if_neg c7] at H
    exact absurd H (by simp)
  ·rw [if_neg c6] at H
   exact absurd H (by simp)
 ·rw [if_neg c3] at H
  have c3b0 : ((l0_0.length : Int) == 512) = false := beq_eq_false_iff_ne.mpr c3
  have c3b1 : ((l0_0.length : Int) != 512) = true := bne_iff_ne.mpr c3
  simp only [Option.some.injEq, Prod.mk.injEq] at H
  obtain ⟨rfl, rfl, rfl, rfl, rfl, rfl, rfl, rfl, rfl⟩ := H
  go_enter Try.func95, Try.ntmps95
  go_wp2_with (first | ((with_reducible refine gate_dst (N := 2) rfl ?_); refine bx (N := 2) (cs := #[.slice A0_0 l0_0.length c0_0, .int .i64 a0_1]) (t := 37) ?_; intro gb306 hg w27 hbox hb; have n0_ := Aside0.mk (below_step (bw HB.out) hb); have n1_ := Aside0.mk (hbox); have n2_ := Aside0.mk ((gs hg (bw HB.out))); have n3_ := Aside0.mk ((gs hg (bw HB.out))); clear HB; have HB := n0_; have BK306 := n1_; have GW306 := n2_; have GE306 := n3_; clear n0_ n1_ n2_ n3_; clear hb hbox hg) | ((with_reducible refine gate_dst (N := 3) rfl ?_); refine bx (N := 3) (cs := #[.int .i64 a1_0, .int .i64 a1_1, .int .i64 a1_2, .int .i64 a1_3, .bool a1_4, .bool a1_5, .bool a1_6, .bool a1_7]) (t := 38) ?_; intro gb307 hg w28 hbox hb; have n0_ := Aside0.mk (blk_below (g := gb306) (o := .cells #[.slice A0_0 l0_0.length c0_0, .int .i64 a0_1] 37 (0, 0)) (kb BK306.out) hb); have n1_ := Aside0.mk (below_step (bw HB.out) hb); have n2_ := Aside0.mk (hbox); have n3_ := Aside0.mk ((gs hg (bw HB.out))); have n4_ := Aside0.mk ((gs hg (bw HB.out))); have n5_ := Aside0.mk ((ga hg BK306.out)); have n6_ := Aside0.mk ((gc hg BK306.out)); clear BK306; clear HB; have BK306 := n0_; have HB := n1_; have BK307 := n2_; have GW307 := n3_; have GE307 := n4_; have NB306_307 := n5_; have NB307_306 := n6_; clear n0_ n1_ n2_ n3_ n4_ n5_ n6_; clear hb hbox hg) | ((with_reducible refine gate_dst (N := 4) rfl ?_); refine bx (N := 4) (cs := #[.int .i64 0, .int .i64 0, .int .i64 0, .int .i64 0, .bool false, .bool false, .bool false, .bool false]) (t := 38) ?_; intro gb308 hg w29 hbox hb; have n0_ := Aside0.mk (blk_below (g := gb306) (o := .cells #[.slice A0_0 l0_0.length c0_0, .int .i64 a0_1] 37 (0, 0)) (kb BK306.out) hb); have n1_ := Aside0.mk (blk_below (g := gb307) (o := .cells #[.int .i64 a1_0, .int .i64 a1_1, .int .i64 a1_2, .int .i64 a1_3, .bool a1_4, .bool a1_5, .bool a1_6, .bool a1_7] 38 (0, 0)) (kb BK307.out) hb); have n2_ := Aside0.mk (below_step (bw HB.out) hb); have n3_ := Aside0.mk (hbox); have n4_ := Aside0.mk ((gs hg (bw HB.out))); have n5_ := Aside0.mk ((gs hg (bw HB.out))); have n6_ := Aside0.mk ((ga hg BK306.out)); have n7_ := Aside0.mk ((gc hg BK306.out)); have n8_ := Aside0.mk ((ga hg BK307.out)); have n9_ := Aside0.mk ((gc hg BK307.out)); clear BK306; clear BK307; clear HB; have BK306 := n0_; have BK307 := n1_; have HB := n2_; have BK308 := n3_; have GW308 := n4_; have GE308 := n5_; have NB306_308 := n6_; have NB308_306 := n7_; have NB307_308 := n8_; have NB308_307 := n9_; clear n0_ n1_ n2_ n3_ n4_ n5_ n6_ n7_ n8_ n9_; clear hb hbox hg; have hnb30 := NB306_307.out; have hnc30 := NB307_306.out; have hnb31 := NB306_308.out; have hnc31 := NB308_306.out; have hcz32_0 : w29.cell? ⟨gb306, 0, none⟩ = some (.slice A0_0 l0_0.length c0_0) := (blk_cell BK306.out 0).trans rfl; have hcz32_1 : w29.cell? ⟨gb306, 1, none⟩ = some (.int .i64 a0_1) := (blk_cell BK306.out 1).trans rfl; have hfz32_0 := blk_frozen BK306.out 0; have hfz32_1 := blk_frozen BK306.out 1; have hnb33 := NB307_308.out; have hnc33 := NB308_307.out; have hcz34_0 : w29.cell? ⟨gb307, 0, none⟩ = some (.int .i64 a1_0) := (blk_cell BK307.out 0).trans rfl; have hcz34_1 : w29.cell? ⟨gb307, 1, none⟩ = some (.int .i64 a1_1) := (blk_cell BK307.out 1).trans rfl; have hcz34_2 : w29.cell? ⟨gb307, 2, none⟩ = some (.int .i64 a1_2) := (blk_cell BK307.out 2).trans rfl; have hcz34_3 : w29.cell? ⟨gb307, 3, none⟩ = some (.int .i64 a1_3) := (blk_cell BK307.out 3).trans rfl; have hcz34_4 : w29.cell? ⟨gb307, 4, none⟩ = some (.bool a1_4) := (blk_cell BK307.out 4).trans rfl; have hcz34_5 : w29.cell? ⟨gb307, 5, none⟩ = some (.bool a1_5) := (blk_cell BK307.out 5).trans rfl; have hcz34_6 : w29.cell? ⟨gb307, 6, none⟩ = some (.bool a1_6) := (blk_cell BK307.out 6).trans rfl; have hcz34_7 : w29.cell? ⟨gb307, 7, none⟩ = some (.bool a1_7) := (blk_cell BK307.out 7).trans rfl; have hfz34_0 := blk_frozen BK307.out 0; have hfz34_1 := blk_frozen BK307.out 1; have hfz34_2 := blk_frozen BK307.out 2; have hfz34_3 := blk_frozen BK307.out 3; have hfz34_4 := blk_frozen BK307.out 4; have hfz34_5 := blk_frozen BK307.out 5; have hfz34_6 := blk_frozen BK307.out 6; have hfz34_7 := blk_frozen BK307.out 7; have hcz35_0 : w29.cell? ⟨gb308, 0, none⟩ = some (.int .i64 0) := (blk_cell BK308.out 0).trans rfl; have hcz35_1 : w29.cell? ⟨gb308, 1, none⟩ = some (.int .i64 0) := (blk_cell BK308.out 1).trans rfl; have hcz35_2 : w29.cell? ⟨gb308, 2, none⟩ = some (.int .i64 0) := (blk_cell BK308.out 2).trans rfl; have hcz35_3 : w29.cell? ⟨gb308, 3, none⟩ = some (.int .i64 0) := (blk_cell BK308.out 3).trans rfl; have hcz35_4 : w29.cell? ⟨gb308, 4, none⟩ = some (.bool false) := (blk_cell BK308.out 4).trans rfl; have hcz35_5 : w29.cell? ⟨gb308, 5, none⟩ = some (.bool false) := (blk_cell BK308.out 5).trans rfl; have hcz35_6 : w29.cell? ⟨gb308, 6, none⟩ = some (.bool false) := (blk_cell BK308.out 6).trans rfl; have hcz35_7 : w29.cell? ⟨gb308, 7, none⟩ = some (.bool false) := (blk_cell BK308.out 7).trans rfl; have hfz35_0 := blk_frozen BK308.out 0; have hfz35_1 := blk_frozen BK308.out 1; have hfz35_2 := blk_frozen BK308.out 2; have hfz35_3 := blk_frozen BK308.out 3; have hfz35_4 := blk_frozen BK308.out 4; have hfz35_5 := blk_frozen BK308.out 5; have hfz35_6 := blk_frozen BK308.out 6; have hfz35_7 := blk_frozen BK308.out 7))
  refine bodyPost_ret (results_ct rfl _ _ gb308 38 #[.int .i64 a1_0, .int .i64 a1_1, .int .i64 a1_2, .int .i64 a1_3, .bool a1_4, .bool a1_5, .bool a1_6, .bool a1_7] (0, 0) _ rfl (by (with_reducible repeat (first | refine blk_drewN ?_ _ | refine blk_drew ?_ | refine blk_alloc ?_ _)); refine blk_put (cs := #[.int .i64 a1_0, .int .i64 a1_1, .int .i64 a1_2, .int .i64 a1_3, .bool a1_4, .bool a1_5, .bool a1_6, .bool false]) ?_ 7 _ rfl; (with_reducible repeat (first | refine blk_drewN ?_ _ | refine blk_drew ?_ | refine blk_alloc ?_ _)); refine blk_put (cs := #[.int .i64 a1_0, .int .i64 a1_1, .int .i64 a1_2, .int .i64 a1_3, .bool a1_4, .bool a1_5, .bool false, .bool false]) ?_ 6 _ rfl; (with_reducible repeat (first | refine blk_drewN ?_ _ | refine blk_drew ?_ | refine blk_alloc ?_ _)); refine blk_put (cs := #[.int .i64 a1_0, .int .i64 a1_1, .int .i64 a1_2, .int .i64 a1_3, .bool a1_4, .bool false, .bool false, .bool false]) ?_ 5 _ rfl; (with_reducible repeat (first | refine blk_drewN ?_ _ | refine blk_drew ?_ | refine blk_alloc ?_ _)); refine blk_put (cs := #[.int .i64 a1_0, .int .i64 a1_1, .int .i64 a1_2, .int .i64 a1_3, .bool false, .bool false, .bool false, .bool false]) ?_ 4 _ rfl; (with_reducible repeat (first | refine blk_drewN ?_ _ | refine blk_drew ?_ | refine blk_alloc ?_ _)); refine blk_put (cs := #[.int .i64 a1_0, .int .i64 a1_1, .int .i64 a1_2, .int .i64 0, .bool false, .bool false, .bool false, .bool false]) ?_ 3 _ rfl; (with_reducible repeat (first | refine blk_drewN ?_ _ | refine blk_drew ?_ | refine blk_alloc ?_ _)); refine blk_put (cs := #[.int .i64 a1_0, .int .i64 a1_1, .int .i64 0, .int .i64 0, .bool false, .bool false, .bool false, .bool false]) ?_ 2 _ rfl; (with_reducible repeat (first | refine blk_drewN ?_ _ | refine blk_drew ?_ | refine blk_alloc ?_ _)); refine blk_put (cs := #[.int .i64 a1_0, .int .i64 0, .int .i64 0, .int .i64 0, .bool false, .bool false, .bool false, .bool false]) ?_ 1 _ rfl; (with_reducible repeat (first | refine blk_drewN ?_ _ | refine blk_drew ?_ | refine blk_alloc ?_ _)); refine blk_put (cs := #[.int .i64 0, .int .i64 0, .int .i64 0, .int .i64 0, .bool false, .bool false, .bool false, .bool false]) ?_ 0 _ rfl; (with_reducible repeat (first | refine blk_drewN ?_ _ | refine blk_drew ?_ | refine blk_alloc ?_ _)); exact BK308.out) Try.underlying38 rfl (by kernel_rfl)) rfl ?_
  exact ⟨rt, bw HB.out⟩

/-! ### spec_WithFlags: function 97 -/
def spec_WithFlags.f (a0_0 : Int) (a0_1 : Int) (a0_2 : Int) (a0_3 : Int) (a0_4 : Bool) (a0_5 : Bool) (a0_6 : Bool) (a0_7 : Bool) (a1 : Int) : Option (Int × Int × Int × Int × Bool × Bool × Bool × Bool) := some (a0_0, a0_1, a0_2, a0_3, ((Go.bits .and .i64 a1 2) != 0), ((Go.bits .and .i64 a1 128) != 0), ((Go.bits .and .i64 a1 1) != 0), ((Go.bits .and .i64 a1 4) != 0))
set_option maxHeartbeats 8000000 in
set_option maxRecDepth 100000 in
theorem spec_WithFlags.calls (a0_0 : Int) (a0_1 : Int) (a0_2 : Int) (a0_3 : Int) (a0_4 : Bool) (a0_5 : Bool) (a0_6 : Bool) (a0_7 : Bool) (a1 : Int) (r1 : Int) (r2 : Int) (r3 : Int) (r4 : Int) (r5 : Bool) (r6 : Bool) (r7 : Bool) (r8 : Bool) (w : World) (h : spec_WithFlags.f a0_0 a0_1 a0_2 a0_3 a0_4 a0_5 a0_6 a0_7 a1 = some (r1, r2, r3, r4, r5, r6, r7, r8)) :
  Calls Try.prog 97 #[.agg #[.int .i64 a0_0, .int .i64 a0_1, .int .i64 a0_2, .int .i64 a0_3, .bool a0_4, .bool a0_5, .bool a0_6, .bool a0_7], .int .i64 a1] w fun e w' => e = .returned (.agg #[.int .i64 r1, .int .i64 r2, .int .i64 r3, .int .i64 r4, .bool r5, .bool r6, .bool r7, .bool r8]) ∧ Below w.heap.size w w' := by
 have hu38 := Try.underlying38
 have HB := Aside0.mk (Below.refl w.heap.size w)
 have H : (some (a0_0, a0_1, a0_2, a0_3, ((Go.bits .and .i64 a1 2) != 0), ((Go.bits .and .i64 a1 128) != 0), ((Go.bits .and .i64 a1 1) != 0), ((Go.bits .and .i64 a1 4) != 0))) = some (r1, r2, r3, r4, r5, r6, r7, r8) := h
 clear h
 simp only [Option.some.injEq, Prod.mk.injEq] at H
 obtain ⟨rfl, rfl, rfl, rfl, rfl, rfl, rfl, rfl⟩ := H
 go_enter Try.func97, Try.ntmps97
 go_wp2_with (first | ((with_reducible refine gate_dst (N := 2) rfl ?_); refine bx (N := 2) (cs := #[.int .i64 a0_0, .int .i64 a0_1, .int .i64 a0_2, .int .i64 a0_3, .bool a0_4, .bool a0_5, .bool a0_6, .bool a0_7]) (t := 38) ?_; intro gb334 hg w3 hbox hb; have n0_ := Aside0.mk (below_step (bw HB.out) hb); have n1_ := Aside0.mk (hbox); have n2_ := Aside0.mk ((gs hg (bw HB.out))); have n3_ := Aside0.mk ((gs hg (bw HB.out))); clear HB; have HB := n0_; have BK334 := n1_; have GW334 := n2_; have GE334 := n3_; clear n0_ n1_ n2_ n3_; clear hb hbox hg) | ((with_reducible refine gate_dst (N := 4) rfl ?_); refine bx (N := 4) (cs := #[.int .i64 0, .int .i64 0, .int .i64 0, .int .i64 0, .bool false, .bool false, .bool false, .bool false]) (t := 38) ?_; intro gb335 hg w4 hbox hb; have n0_ := Aside0.mk (blk_below (g := gb334) (o := .cells #[.int .i64 a0_0, .int .i64 a0_1, .int .i64 a0_2, .int .i64 a0_3, .bool a0_4, .bool a0_5, .bool a0_6, .bool a0_7] 38 (0, 0)) (kb BK334.out) hb); have n1_ := Aside0.mk (below_step (bw HB.out) hb); have n2_ := Aside0.mk (hbox); have n3_ := Aside0.mk ((gs hg (bw HB.out))); have n4_ := Aside0.mk ((gs hg (bw HB.out))); have n5_ := Aside0.mk ((ga hg BK334.out)); have n6_ := Aside0.mk ((gc hg BK334.out)); clear BK334; clear HB; have BK334 := n0_; have HB := n1_; have BK335 := n2_; have GW335 := n3_; have GE335 := n4_; have NB334_335 := n5_; have NB335_334 := n6_; clear n0_ n1_ n2_ n3_ n4_ n5_ n6_; clear hb hbox hg; have hnb5 := NB334_335.out; have hnc5 := NB335_334.out; have hcz6_0 : w4.cell? ⟨gb334, 0, none⟩ = some (.int .i64 a0_0) := (blk_cell BK334.out 0).trans rfl; have hcz6_1 : w4.cell? ⟨gb334, 1, none⟩ = some (.int .i64 a0_1) := (blk_cell BK334.out 1).trans rfl; have hcz6_2 : w4.cell? ⟨gb334, 2, none⟩ = some (.int .i64 a0_2) := (blk_cell BK334.out 2).trans rfl; have hcz6_3 : w4.cell? ⟨gb334, 3, none⟩ = some (.int .i64 a0_3) := (blk_cell BK334.out 3).trans rfl; have hcz6_4 : w4.cell? ⟨gb334, 4, none⟩ = some (.bool a0_4) := (blk_cell BK334.out 4).trans rfl; have hcz6_5 : w4.cell? ⟨gb334, 5, none⟩ = some (.bool a0_5) := (blk_cell BK334.out 5).trans rfl; have hcz6_6 : w4.cell? ⟨gb334, 6, none⟩ = some (.bool a0_6) := (blk_cell BK334.out 6).trans rfl; have hcz6_7 : w4.cell? ⟨gb334, 7, none⟩ = some (.bool a0_7) := (blk_cell BK334.out 7).trans rfl; have hfz6_0 := blk_frozen BK334.out 0; have hfz6_1 := blk_frozen BK334.out 1; have hfz6_2 := blk_frozen BK334.out 2; have hfz6_3 := blk_frozen BK334.out 3; have hfz6_4 := blk_frozen BK334.out 4; have hfz6_5 := blk_frozen BK334.out 5; have hfz6_6 := blk_frozen BK334.out 6; have hfz6_7 := blk_frozen BK334.out 7; have hcz7_0 : w4.cell? ⟨gb335, 0, none⟩ = some (.int .i64 0) := (blk_cell BK335.out 0).trans rfl; have hcz7_1 : w4.cell? ⟨gb335, 1, none⟩ = some (.int .i64 0) := (blk_cell BK335.out 1).trans rfl; have hcz7_2 : w4.cell? ⟨gb335, 2, none⟩ = some (.int .i64 0) := (blk_cell BK335.out 2).trans rfl; have hcz7_3 : w4.cell? ⟨gb335, 3, none⟩ = some (.int .i64 0) := (blk_cell BK335.out 3).trans rfl; have hcz7_4 : w4.cell? ⟨gb335, 4, none⟩ = some (.bool false) := (blk_cell BK335.out 4).trans rfl; have hcz7_5 : w4.cell? ⟨gb335, 5, none⟩ = some (.bool false) := (blk_cell BK335.out 5).trans rfl; have hcz7_6 : w4.cell? ⟨gb335, 6, none⟩ = some (.bool false) := (blk_cell BK335.out 6).trans rfl; have hcz7_7 : w4.cell? ⟨gb335, 7, none⟩ = some (.bool false) := (blk_cell BK335.out 7).trans rfl; have hfz7_0 := blk_frozen BK335.out 0; have hfz7_1 := blk_frozen BK335.out 1; have hfz7_2 := blk_frozen BK335.out 2; have hfz7_3 := blk_frozen BK335.out 3; have hfz7_4 := blk_frozen BK335.out 4; have hfz7_5 := blk_frozen BK335.out 5; have hfz7_6 := blk_frozen BK335.out 6; have hfz7_7 := blk_frozen BK335.out 7))
 refine bodyPost_ret (results_cell_row rfl _ _ gb335 38 #[.int .i64 a0_0, .int .i64 a0_1, .int .i64 a0_2, .int .i64 a0_3, .bool ((Go.bits .and .i64 a1 2) != 0), .bool ((Go.bits .and .i64 a1 128) != 0), .bool ((Go.bits .and .i64 a1 1) != 0), .bool ((Go.bits .and .i64 a1 4) != 0)] (0, 0) _ rfl (by (with_reducible repeat (first | refine blk_drewN ?_ _ | refine blk_drew ?_ | refine blk_alloc ?_ _)); refine blk_put (cs := #[.int .i64 a0_0, .int .i64 a0_1, .int .i64 a0_2, .int .i64 a0_3, .bool ((Go.bits .and .i64 a1 2) != 0), .bool ((Go.bits .and .i64 a1 128) != 0), .bool ((Go.bits .and .i64 a1 1) != 0), .bool false]) ?_ 7 _ rfl; (with_reducible repeat (first | refine blk_drewN ?_ _ | refine blk_drew ?_ | refine blk_alloc ?_ _)); refine blk_put (cs := #[.int .i64 a0_0, .int .i64 a0_1, .int .i64 a0_2, .int .i64 a0_3, .bool ((Go.bits .and .i64 a1 2) != 0), .bool ((Go.bits .and .i64 a1 128) != 0), .bool false, .bool false]) ?_ 6 _ rfl; (with_reducible repeat (first | refine blk_drewN ?_ _ | refine blk_drew ?_ | refine blk_alloc ?_ _)); refine blk_put (cs := #[.int .i64 a0_0, .int .i64 a0_1, .int .i64 a0_2, .int .i64 a0_3, .bool ((Go.bits .and .i64 a1 2) != 0), .bool false, .bool false, .bool false]) ?_ 5 _ rfl; (with_reducible repeat (first | refine blk_drewN ?_ _ | refine blk_drew ?_ | refine blk_alloc ?_ _)); refine blk_put (cs := #[.int .i64 a0_0, .int .i64 a0_1, .int .i64 a0_2, .int .i64 a0_3, .bool false, .bool false, .bool false, .bool false]) ?_ 4 _ rfl; (with_reducible repeat (first | refine blk_drewN ?_ _ | refine blk_drew ?_ | refine blk_alloc ?_ _)); refine blk_put (cs := #[.int .i64 a0_0, .int .i64 a0_1, .int .i64 a0_2, .int .i64 0, .bool false, .bool false, .bool false, .bool false]) ?_ 3 _ rfl; (with_reducible repeat (first | refine blk_drewN ?_ _ | refine blk_drew ?_ | refine blk_alloc ?_ _)); refine blk_put (cs := #[.int .i64 a0_0, .int .i64 a0_1, .int .i64 0, .int .i64 0, .bool false, .bool false, .bool false, .bool false]) ?_ 2 _ rfl; (with_reducible repeat (first | refine blk_drewN ?_ _ | refine blk_drew ?_ | refine blk_alloc ?_ _)); refine blk_put (cs := #[.int .i64 a0_0, .int .i64 0, .int .i64 0, .int .i64 0, .bool false, .bool false, .bool false, .bool false]) ?_ 1 _ rfl; (with_reducible repeat (first | refine blk_drewN ?_ _ | refine blk_drew ?_ | refine blk_alloc ?_ _)); refine blk_put (cs := #[.int .i64 0, .int .i64 0, .int .i64 0, .int .i64 0, .bool false, .bool false, .bool false, .bool false]) ?_ 0 _ rfl; (with_reducible repeat (first | refine blk_drewN ?_ _ | refine blk_drew ?_ | refine blk_alloc ?_ _)); refine blk_far ?_ NB335_334.out _; (with_reducible repeat (first | refine blk_drewN ?_ _ | refine blk_drew ?_ | refine blk_alloc ?_ _)); refine blk_far ?_ NB335_334.out _; (with_reducible repeat (first | refine blk_drewN ?_ _ | refine blk_drew ?_ | refine blk_alloc ?_ _)); refine blk_far ?_ NB335_334.out _; (with_reducible repeat (first | refine blk_drewN ?_ _ | refine blk_drew ?_ | refine blk_alloc ?_ _)); refine blk_far ?_ NB335_334.out _; (with_reducible repeat (first | refine blk_drewN ?_ _ | refine blk_drew ?_ | refine blk_alloc ?_ _)); exact BK335.out) Try.underlying38 rfl (by kernel_rfl)) rfl ?_
 exact ⟨rt, bw HB.out⟩

-- NOT PRINTED: function 57 (spec_Exec)

/-! ### laws_toInstr: function 58 -/
def laws_toInstr.f (a0_0 : Int) (a0_1 : Int) : Option (Int × Int) := some (a0_0, a0_1)
set_option maxHeartbeats 8000000 in
set_option maxRecDepth 100000 in
theorem laws_toInstr.calls (a0_0 : Int) (a0_1 : Int) (r1 : Int) (r2 : Int) (w : World) (h : laws_toInstr.f a0_0 a0_1 = some (r1, r2)) :
  Calls Try.prog 58 #[.agg #[.int .i64 a0_0, .int .i64 a0_1]] w fun e w' => e = .returned (.agg #[.int .i64 r1, .int .i64 r2]) ∧ Below w.heap.size w w' := by
 have hu73 := Try.underlying73
 have hu68 := Try.underlying68
 have HB := Aside0.mk (Below.refl w.heap.size w)
 have H : (some (a0_0, a0_1)) = some (r1, r2) := h
 clear h
 simp only [Option.some.injEq, Prod.mk.injEq] at H
 obtain ⟨rfl, rfl⟩ := H
 go_enter Try.func58, Try.ntmps58
 go_wp2_with (first | ((with_reducible refine gate_dst (N := 1) rfl ?_); refine bx (N := 1) (cs := #[.int .i64 a0_0, .int .i64 a0_1]) (t := 73) ?_; intro gb459 hg w2 hbox hb; have n0_ := Aside0.mk (below_step (bw HB.out) hb); have n1_ := Aside0.mk (hbox); have n2_ := Aside0.mk ((gs hg (bw HB.out))); have n3_ := Aside0.mk ((gs hg (bw HB.out))); clear HB; have HB := n0_; have BK459 := n1_; have GW459 := n2_; have GE459 := n3_; clear n0_ n1_ n2_ n3_; clear hb hbox hg) | ((with_reducible refine gate_dst (N := 2) rfl ?_); refine bx (N := 2) (cs := #[.int .i64 0, .int .i64 0]) (t := 68) ?_; intro gb460 hg w3 hbox hb; have n0_ := Aside0.mk (blk_below (g := gb459) (o := .cells #[.int .i64 a0_0, .int .i64 a0_1] 73 (0, 0)) (kb BK459.out) hb); have n1_ := Aside0.mk (below_step (bw HB.out) hb); have n2_ := Aside0.mk (hbox); have n3_ := Aside0.mk ((gs hg (bw HB.out))); have n4_ := Aside0.mk ((gs hg (bw HB.out))); have n5_ := Aside0.mk ((ga hg BK459.out)); have n6_ := Aside0.mk ((gc hg BK459.out)); clear BK459; clear HB; have BK459 := n0_; have HB := n1_; have BK460 := n2_; have GW460 := n3_; have GE460 := n4_; have NB459_460 := n5_; have NB460_459 := n6_; clear n0_ n1_ n2_ n3_ n4_ n5_ n6_; clear hb hbox hg) | ((with_reducible refine gate_dst (N := 3) rfl ?_); refine bx (N := 3) (cs := #[.int .i64 0, .int .i64 0]) (t := 68) ?_; intro gb461 hg w4 hbox hb; have n0_ := Aside0.mk (blk_below (g := gb459) (o := .cells #[.int .i64 a0_0, .int .i64 a0_1] 73 (0, 0)) (kb BK459.out) hb); have n1_ := Aside0.mk (blk_below (g := gb460) (o := .cells #[.int .i64 0, .int .i64 0] 68 (0, 0)) (kb BK460.out) hb); have n2_ := Aside0.mk (below_step (bw HB.out) hb); have n3_ := Aside0.mk (hbox); have n4_ := Aside0.mk ((gs hg (bw HB.out))); have n5_ := Aside0.mk ((gs hg (bw HB.out))); have n6_ := Aside0.mk ((ga hg BK459.out)); have n7_ := Aside0.mk ((gc hg BK459.out)); have n8_ := Aside0.mk ((ga hg BK460.out)); have n9_ := Aside0.mk ((gc hg BK460.out)); clear BK459; clear BK460; clear HB; have BK459 := n0_; have BK460 := n1_; have HB := n2_; have BK461 := n3_; have GW461 := n4_; have GE461 := n5_; have NB459_461 := n6_; have NB461_459 := n7_; have NB460_461 := n8_; have NB461_460 := n9_; clear n0_ n1_ n2_ n3_ n4_ n5_ n6_ n7_ n8_ n9_; clear hb hbox hg; have hnb5 := NB459_460.out; have hnc5 := NB460_459.out; have hnb6 := NB459_461.out; have hnc6 := NB461_459.out; have hcz7_0 : w4.cell? ⟨gb459, 0, none⟩ = some (.int .i64 a0_0) := (blk_cell BK459.out 0).trans rfl; have hcz7_1 : w4.cell? ⟨gb459, 1, none⟩ = some (.int .i64 a0_1) := (blk_cell BK459.out 1).trans rfl; have hfz7_0 := blk_frozen BK459.out 0; have hfz7_1 := blk_frozen BK459.out 1; have hnb8 := NB461_460.out; have hnc8 := NB460_461.out; have hcz9_0 : w4.cell? ⟨gb461, 0, none⟩ = some (.int .i64 0) := (blk_cell BK461.out 0).trans rfl; have hcz9_1 : w4.cell? ⟨gb461, 1, none⟩ = some (.int .i64 0) := (blk_cell BK461.out 1).trans rfl; have hfz9_0 := blk_frozen BK461.out 0; have hfz9_1 := blk_frozen BK461.out 1; have hcz10_0 : w4.cell? ⟨gb460, 0, none⟩ = some (.int .i64 0) := (blk_cell BK460.out 0).trans rfl; have hcz10_1 : w4.cell? ⟨gb460, 1, none⟩ = some (.int .i64 0) := (blk_cell BK460.out 1).trans rfl; have hfz10_0 := blk_frozen BK460.out 0; have hfz10_1 := blk_frozen BK460.out 1))
 refine bodyPost_ret (results_cell_row rfl _ _ gb460 68 #[.int .i64 a0_0, .int .i64 a0_1] (0, 0) _ rfl (by (with_reducible repeat (first | refine blk_drewN ?_ _ | refine blk_drew ?_ | refine blk_alloc ?_ _)); refine blk_put (cs := #[.int .i64 a0_0, .int .i64 0]) ?_ 1 _ rfl; (with_reducible repeat (first | refine blk_drewN ?_ _ | refine blk_drew ?_ | refine blk_alloc ?_ _)); refine blk_put (cs := #[.int .i64 0, .int .i64 0]) ?_ 0 _ rfl; (with_reducible repeat (first | refine blk_drewN ?_ _ | refine blk_drew ?_ | refine blk_alloc ?_ _)); refine blk_far ?_ NB460_461.out _; (with_reducible repeat (first | refine blk_drewN ?_ _ | refine blk_drew ?_ | refine blk_alloc ?_ _)); refine blk_far ?_ NB460_461.out _; (with_reducible repeat (first | refine blk_drewN ?_ _ | refine blk_drew ?_ | refine blk_alloc ?_ _)); exact BK460.out) Try.underlying68 rfl (by kernel_rfl)) rfl ?_
 exact ⟨rt, bw HB.out⟩

/-! ### impl_copyInts: function 74 -/
def impl_copyInts.f (l0 : List Int) : Option (List Int) := (some (([] : List Int) : List Int)).bind fun y462 => (if y462.length + l0.length < 17592186044416 then (some (y462 ++ l0)) else (none))
set_option maxHeartbeats 8000000 in
set_option maxRecDepth 100000 in
theorem impl_copyInts.calls (A0 : Option Addr) (c0 : Nat) (l0 : List Int) (r : List Int) (w : World) (hr0 : Kd.C (Kd.int .i64) w A0 l0.length l0) (hc0 : l0.length ≤ c0) (h : impl_copyInts.f l0 = some r) :
  Calls Try.prog 74 #[.slice A0 l0.length c0] w fun e w' => ∃ v0_ : Value, e = .returned (v0_) ∧ Kd.R (Kd.int .i64) 3 w' w.heap.size (fun _ => True) v0_ r ∧ Below w.heap.size w w' := by
 have HR0 := Aside0.mk hr0
 have HC0 := Aside0.mk hc0
 clear hr0 hc0
 have HB := Aside0.mk (Below.refl w.heap.size w)
 have H : ((some (([] : List Int) : List Int)).bind fun y462 => (if y462.length + l0.length < 17592186044416 then (some (y462 ++ l0)) else (none))) = some r := h
 clear h
 obtain ⟨y462, hy462⟩ : ∃ y_ : List Int, y_ = (([] : List Int)) := ⟨_, rfl⟩
 replace H : (if y462.length + l0.length < 17592186044416 then (some (y462 ++ l0)) else (none)) = some r := by first | (rw [hy462]; with_reducible exact H) | (have H2_ := (Option.bind_some _ _).symm.trans H; rw [hy462]; with_reducible exact H2_) | (have H2_ := (Option.bind_some _ _).symm.trans H; with_reducible exact H2_) | with_reducible exact H | (rw [hy462]; exact H) | exact H
 have Ny462 := Aside0.mk hy462
 clear hy462
 by_cases c2 : y462.length + l0.length < 17592186044416
 ·rw [if_pos c2] at H
  have LMc2 := Aside0.mk c2
  clear c2
  obtain ⟨y465, hy465⟩ : ∃ y_ : List Int, y_ = (y462 ++ l0) := ⟨_, rfl⟩
  replace H : (some y465) = some r := by first | (rw [hy465]; with_reducible exact H) | (have H2_ := (Option.bind_some _ _).symm.trans H; rw [hy465]; with_reducible exact H2_) | (have H2_ := (Option.bind_some _ _).symm.trans H; with_reducible exact H2_) | with_reducible exact H | (rw [hy465]; exact H) | exact H
  have Ny465 := Aside0.mk hy465
  clear hy465
  obtain rfl := Option.some.inj H
  go_enter Try.func74, Try.ntmps74
  go_wp2_with (first | ((with_reducible refine gate_dst (N := 3) rfl ?_); refine Kd.R_lit (Kd.int .i64) _ 3 ?hg (N := 3) ?hd (xs := ([] : List Int)) (inner := []) (ok := fun _ => True) (okp := fun _ => True) ?hr ?hp (fun _ hk => hk) trivial (Below.refl _ _) (Nat.le_refl _) (by simp) ?_; (case hd => rfl); (case hg => rfl); (case hr => first | (go_simp; done) | (go_simp; rfl)); (case hp => exact (Reps.none _ _)); intro v463 w3 ho4 hb hg_ hnew_; clear hg_ hnew_; (first | rw [← Ny462.out] at ho4 | (simp only [Int.reduceToNat] at ho4; rw [← Ny462.out] at ho4)); have n0_ := Aside0.mk (Kd.R_lower ho4 (below_size (bw HB.out))); have n1_ := Aside0.mk (below_step (bw HB.out) hb); clear HB; have HO464 := n0_; have HB := n1_; clear n0_ n1_; clear hb ho4) | ((with_reducible refine gate_builtin (b := .append) (xs := #[.tmp 3, .tmp 4]) rfl ?_); at_builtin; refine Kd.R_append_rows (Kd.int .i64) (w0 := w) w.heap.size rfl (.tmp 3) (.tmp 4) 31 3 (.int .i64 0) 8 rfl Try.underlying31 info3 rfl (by decide) (by omega) v463 y462 l0 _ _ _ (fun _ => True) (fun _ => False) rfl rfl ?aO ?aR (fun _ _ h => h) (fun _ h => h.elim) ?aF ?aB ?aS ?aL ?_; (case aR => exact kc (Kd.C_below HR0.out HB.out)); (case aB => exact (bw HB.out)); (case aF => exact (fun _ _ => trivial)); (case aO => exact (kr HO464.out)); (case aS => exact (below_size (bw HB.out))); (case aL => have := LMc2.out; omega); intro v466 w5 ho hb hg hat; rw [← Ny465.out] at ho; have n0_ := Aside0.mk (hb); have n1_ := Aside0.mk (ho); clear HB; clear HO464; have HB := n0_; have HO467 := n1_; clear n0_ n1_; clear ho hb hg hat))
  go_ret
  exact ⟨_, rt, kr HO467.out, bw HB.out⟩
 ·rw [if_neg c2] at H
  exact absurd H (by simp)

end Go.Proofs.Ytmiaocoffmobcaa.MFnExactExec
