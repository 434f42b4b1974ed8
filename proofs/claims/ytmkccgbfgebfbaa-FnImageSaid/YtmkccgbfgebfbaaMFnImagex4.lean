/- Walks of functions that the law FnImage reaches: each comes to just what its Lean function says. (Begun as the texts that print.sh wrote for this claim; some of them, and those that it does not write, are mine.) No condition. -/
import Derived.Test.YtmkccgbfgebfbaaMFnImagex3
namespace Go.Proofs.Ytmkccgbfgebfbaa.MFnImage
open Go.RowKit Go.Proofs.YtmkccgbfgebfbaaW.PrintWords Go.Proofs.YtmkccgbfgebfbaaW.PrintLast Go.Proofs.YtmkccgbfgebfbaaW.PrintMore
attribute [local go_sem] max2_int min2_int max_two min_two max_three min_three max_four min_four   -- for this text's walks alone
set_option linter.unusedVariables false
set_option linter.unusedSimpArgs false

/-! ### spec_DrawImageRead: function 23 -/
def spec_DrawImageRead.f (k : Nat) (l0 : List Int) : Option (List Int) := (spec_l1New.f k l0).bind fun bt373 => ((spec_l2DrawRight.f k bt373.1 bt373.2.1 bt373.2.2).bind fun bt377 => ((spec_ImageBytes.f k bt377.1).bind fun t382 => ((spec_l1Below.f bt373.1 bt377.2.1 bt377.2.2 8).bind fun bt385 => (if bt385.1 = 0 then ((spec_l1Below.f bt373.1 bt385.2.1 bt385.2.2 6).bind fun bt388 => ((spec_l1PickInt.f bt373.1 bt388.2.1 bt388.2.2 (([0, 1, 8, 9, 50] : List Int))).bind fun bt394 => (if 0 ≤ bt388.1 then (if bt388.1 < (t382.length : Int) then (some (t382.set (bt388.1 : Int).toNat ((bt394.1) % 256))) else (none)) else (none)))) else (if bt385.1 = 1 then ((spec_l1Below.f bt373.1 bt385.2.1 bt385.2.2 (wrap64 ((t382.length : Int) + 1))).bind fun bt398 => (if 0 ≤ bt398.1 then (if bt398.1 ≤ (t382.length : Int) then (some (t382.take (bt398.1 : Int).toNat)) else (none)) else (none))) else (if bt385.1 = 2 then (if t382.length < 140737488355328 then (some (t382 ++ [0])) else (none)) else (if bt385.1 = 3 then (if 9 < (t382.length : Int) then (some (t382.set (9 : Int).toNat (((rd t382 9) + 1) % 256))) else (none)) else (some t382))))))))
theorem spec_DrawImageRead.mono : ∀ a0 k, LeO (spec_DrawImageRead.f k a0) (spec_DrawImageRead.f (k + 1) a0) := by
 intro a0 k
 unfold spec_DrawImageRead.f
 repeat' first
   | (with_reducible exact spec_ImageBytes.mono _ _)
   | (with_reducible exact spec_l1New.mono _ _)
   | (with_reducible exact spec_l2DrawRight.mono _ _ _ _)
   | (with_reducible exact LeO.refl _)
   | (with_reducible exact LeO.none _)
   | (with_reducible refine LeO.ite ?_ ?_)
   | (with_reducible refine LeO.bind ?_ (fun _ => ?_))
   | exact spec_ImageBytes.mono _ _
   | exact spec_l1New.mono _ _
   | exact spec_l2DrawRight.mono _ _ _ _
   | exact LeO.none _
   | refine LeO.ite ?_ ?_
   | refine LeO.bind ?_ (fun _ => ?_)
set_option maxHeartbeats 8000000 in
set_option maxRecDepth 100000 in
theorem spec_DrawImageRead.calls (k : Nat) (A0 : Option Addr) (c0 : Nat) (l0 : List Int) (r : List Int) (w : World) (hr0 : Kd.C (Kd.int .u8) w A0 l0.length l0) (hc0 : l0.length ≤ c0) (h : spec_DrawImageRead.f k l0 = some r) :
  Calls Try.prog 23 #[.slice A0 l0.length c0] w fun e w' => ∃ v0_ : Value, e = .returned (v0_) ∧ Kd.R (Kd.int .u8) 5 w' w.heap.size (fun _ => True) v0_ r ∧ Below w.heap.size w w' := by
 have HR0 := Aside0.mk hr0
 have HC0 := Aside0.mk hc0
 clear hr0 hc0
 have HB := Aside0.mk (Below.refl w.heap.size w)
 have H : ((spec_l1New.f k l0).bind fun bt373 => ((spec_l2DrawRight.f k bt373.1 bt373.2.1 bt373.2.2).bind fun bt377 => ((spec_ImageBytes.f k bt377.1).bind fun t382 => ((spec_l1Below.f bt373.1 bt377.2.1 bt377.2.2 8).bind fun bt385 => (if bt385.1 = 0 then ((spec_l1Below.f bt373.1 bt385.2.1 bt385.2.2 6).bind fun bt388 => ((spec_l1PickInt.f bt373.1 bt388.2.1 bt388.2.2 (([0, 1, 8, 9, 50] : List Int))).bind fun bt394 => (if 0 ≤ bt388.1 then (if bt388.1 < (t382.length : Int) then (some (t382.set (bt388.1 : Int).toNat ((bt394.1) % 256))) else (none)) else (none)))) else (if bt385.1 = 1 then ((spec_l1Below.f bt373.1 bt385.2.1 bt385.2.2 (wrap64 ((t382.length : Int) + 1))).bind fun bt398 => (if 0 ≤ bt398.1 then (if bt398.1 ≤ (t382.length : Int) then (some (t382.take (bt398.1 : Int).toNat)) else (none)) else (none))) else (if bt385.1 = 2 then (if t382.length < 140737488355328 then (some (t382 ++ [0])) else (none)) else (if bt385.1 = 3 then (if 9 < (t382.length : Int) then (some (t382.set (9 : Int).toNat (((rd t382 9) + 1) % 256))) else (none)) else (some t382))))))))) = some r := h
 clear h
 replace H := Option.bind_eq_some_iff.mp H
 obtain ⟨⟨t373, t374, t375⟩, A20, H⟩ := H
 replace H : ((spec_l2DrawRight.f k t373 t374 t375).bind fun bt377 => ((spec_ImageBytes.f k bt377.1).bind fun t382 => ((spec_l1Below.f t373 bt377.2.1 bt377.2.2 8).bind fun bt385 => (if bt385.1 = 0 then ((spec_l1Below.f t373 bt385.2.1 bt385.2.2 6).bind fun bt388 => ((spec_l1PickInt.f t373 bt388.2.1 bt388.2.2 (([0, 1, 8, 9, 50] : List Int))).bind fun bt394 => (if 0 ≤ bt388.1 then (if bt388.1 < (t382.length : Int) then (some (t382.set (bt388.1 : Int).toNat ((bt394.1) % 256))) else (none)) else (none)))) else (if bt385.1 = 1 then ((spec_l1Below.f t373 bt385.2.1 bt385.2.2 (wrap64 ((t382.length : Int) + 1))).bind fun bt398 => (if 0 ≤ bt398.1 then (if bt398.1 ≤ (t382.length : Int) then (some (t382.take (bt398.1 : Int).toNat)) else (none)) else (none))) else (if bt385.1 = 2 then (if t382.length < 140737488355328 then (some (t382 ++ [0])) else (none)) else (if bt385.1 = 3 then (if 9 < (t382.length : Int) then (some (t382.set (9 : Int).toNat (((rd t382 9) + 1) % 256))) else (none)) else (some t382)))))))) = some r := H
 have A2 := Aside0.mk A20
 clear A20
 replace H := Option.bind_eq_some_iff.mp H
 obtain ⟨⟨t377, t380, t381⟩, A30, H⟩ := H
 replace H : ((spec_ImageBytes.f k t377).bind fun t382 => ((spec_l1Below.f t373 t380 t381 8).bind fun bt385 => (if bt385.1 = 0 then ((spec_l1Below.f t373 bt385.2.1 bt385.2.2 6).bind fun bt388 => ((spec_l1PickInt.f t373 bt388.2.1 bt388.2.2 (([0, 1, 8, 9, 50] : List Int))).bind fun bt394 => (if 0 ≤ bt388.1 then (if bt388.1 < (t382.length : Int) then (some (t382.set (bt388.1 : Int).toNat ((bt394.1) % 256))) else (none)) else (none)))) else (if bt385.1 = 1 then ((spec_l1Below.f t373 bt385.2.1 bt385.2.2 (wrap64 ((t382.length : Int) + 1))).bind fun bt398 => (if 0 ≤ bt398.1 then (if bt398.1 ≤ (t382.length : Int) then (some (t382.take (bt398.1 : Int).toNat)) else (none)) else (none))) else (if bt385.1 = 2 then (if t382.length < 140737488355328 then (some (t382 ++ [0])) else (none)) else (if bt385.1 = 3 then (if 9 < (t382.length : Int) then (some (t382.set (9 : Int).toNat (((rd t382 9) + 1) % 256))) else (none)) else (some t382))))))) = some r := H
 have A3 := Aside0.mk A30
 clear A30
 replace H := Option.bind_eq_some_iff.mp H
 obtain ⟨t382, A40, H⟩ := H
 replace H : ((spec_l1Below.f t373 t380 t381 8).bind fun bt385 => (if bt385.1 = 0 then ((spec_l1Below.f t373 bt385.2.1 bt385.2.2 6).bind fun bt388 => ((spec_l1PickInt.f t373 bt388.2.1 bt388.2.2 (([0, 1, 8, 9, 50] : List Int))).bind fun bt394 => (if 0 ≤ bt388.1 then (if bt388.1 < (t382.length : Int) then (some (t382.set (bt388.1 : Int).toNat ((bt394.1) % 256))) else (none)) else (none)))) else (if bt385.1 = 1 then ((spec_l1Below.f t373 bt385.2.1 bt385.2.2 (wrap64 ((t382.length : Int) + 1))).bind fun bt398 => (if 0 ≤ bt398.1 then (if bt398.1 ≤ (t382.length : Int) then (some (t382.take (bt398.1 : Int).toNat)) else (none)) else (none))) else (if bt385.1 = 2 then (if t382.length < 140737488355328 then (some (t382 ++ [0])) else (none)) else (if bt385.1 = 3 then (if 9 < (t382.length : Int) then (some (t382.set (9 : Int).toNat (((rd t382 9) + 1) % 256))) else (none)) else (some t382)))))) = some r := H
 have A4 := Aside0.mk A40
 clear A40
 replace H := Option.bind_eq_some_iff.mp H
 obtain ⟨⟨t385, t386, t387⟩, A50, H⟩ := H
 replace H : (if t385 = 0 then ((spec_l1Below.f t373 t386 t387 6).bind fun bt388 => ((spec_l1PickInt.f t373 bt388.2.1 bt388.2.2 (([0, 1, 8, 9, 50] : List Int))).bind fun bt394 => (if 0 ≤ bt388.1 then (if bt388.1 < (t382.length : Int) then (some (t382.set (bt388.1 : Int).toNat ((bt394.1) % 256))) else (none)) else (none)))) else (if t385 = 1 then ((spec_l1Below.f t373 t386 t387 (wrap64 ((t382.length : Int) + 1))).bind fun bt398 => (if 0 ≤ bt398.1 then (if bt398.1 ≤ (t382.length : Int) then (some (t382.take (bt398.1 : Int).toNat)) else (none)) else (none))) else (if t385 = 2 then (if t382.length < 140737488355328 then (some (t382 ++ [0])) else (none)) else (if t385 = 3 then (if 9 < (t382.length : Int) then (some (t382.set (9 : Int).toNat (((rd t382 9) + 1) % 256))) else (none)) else (some t382))))) = some r := H
 have A5 := Aside0.mk A50
 clear A50
 by_cases c6 : t385 = 0
 ·rw [if_pos c6] at H
  have c6b0 : (t385 == 0) = true := beq_iff_eq.mpr c6
  have c6b1 : (t385 != 0) = false := bne_eq_false_iff_eq.mpr c6
  clear c6
  replace H := Option.bind_eq_some_iff.mp H
  obtain ⟨⟨t388, t389, t390⟩, A70, H⟩ := H
  replace H : ((spec_l1PickInt.f t373 t389 t390 (([0, 1, 8, 9, 50] : List Int))).bind fun bt394 => (if 0 ≤ t388 then (if t388 < (t382.length : Int) then (some (t382.set (t388 : Int).toNat ((bt394.1) % 256))) else (none)) else (none))) = some r := H
  have A7 := Aside0.mk A70
  clear A70
  obtain ⟨y391, hy391⟩ : ∃ y_ : List Int, y_ = (([0, 1, 8, 9, 50] : List Int)) := ⟨_, rfl⟩
  replace H : ((spec_l1PickInt.f t373 t389 t390 y391).bind fun bt394 => (if 0 ≤ t388 then (if t388 < (t382.length : Int) then (some (t382.set (t388 : Int).toNat ((bt394.1) % 256))) else (none)) else (none))) = some r := by first | (rw [hy391]; with_reducible exact H) | (have H2_ := (Option.bind_some _ _).symm.trans H; rw [hy391]; with_reducible exact H2_) | (have H2_ := (Option.bind_some _ _).symm.trans H; with_reducible exact H2_) | with_reducible exact H | (rw [hy391]; exact H) | exact H
  have Ny391 := Aside0.mk hy391
  clear hy391
  replace H := Option.bind_eq_some_iff.mp H
  obtain ⟨⟨t394, t395, t396⟩, A80, H⟩ := H
  replace H : (if 0 ≤ t388 then (if t388 < (t382.length : Int) then (some (t382.set (t388 : Int).toNat ((t394) % 256))) else (none)) else (none)) = some r := H
  have A8 := Aside0.mk A80
  clear A80
  by_cases c9 : 0 ≤ t388
  ·rw [if_pos c9] at H
   have c9b0 : decide (0 ≤ t388) = true := decide_eq_true c9
   clear c9
   by_cases c10 : t388 < (t382.length : Int)
   ·rw [if_pos c10] at H
    have c10b0 : decide (t388 < (t382.length : Int)) = true := decide_eq_true c10
    clear c10
    obtain ⟨y397, hy397⟩ : ∃ y_ : List Int, y_ = (t382.set (t388 : Int).toNat ((t394) % 256)) := ⟨_, rfl⟩
    replace H : (some y397) = some r := by first | (rw [hy397]; with_reducible exact H) | (have H2_ := (Option.bind_some _ _).symm.trans H; rw [hy397]; with_reducible exact H2_) | (have H2_ := (Option.bind_some _ _).symm.trans H; with_reducible exact H2_) | with_reducible exact H | (rw [hy397]; exact H) | exact H
    have Ny397 := Aside0.mk hy397
    clear hy397
    obtain rfl := Option.some.inj H
    go_enter Try.func23, Try.ntmps23
    go_wp2_with (first | ((with_reducible refine gate_callee (f := 57) rfl ?_); refine goesM_ (some 6) rfl rfl Try.func57 #[.slice A0 l0.length c0] ?_; (with_reducible refine (spec_l1New.calls k _ _ l0 t373 t374 t375 w _ ?side1 ?side2 ?side3 A2.out).mono ?_); (case side1 => exact bw HB.out); (case side2 => exact HR0.out); (case side3 => exact HC0.out); rintro e w12 ⟨g376, rfl, hi, hb, hb2⟩; refine ⟨_, rfl, ?_⟩; have n0_ := Aside0.mk (hb); have n1_ := Aside0.mk (hi); clear HB; have HB := n0_; have HI376 := n1_; clear n0_ n1_; (try clear hb); (try clear hb2); (try clear hk); (try clear hi)) | ((with_reducible refine gate_callee (f := 69) rfl ?_); refine goesM_ (some 8) rfl rfl Try.func69 #[.pointer (some ⟨g376, 0, none⟩)] ?_; (with_reducible refine (spec_l2DrawRight.calls k g376 t373 t374 t375 t377 t380 t381 w _ ?side1 ?side2 A3.out).mono ?_); (case side1 => exact si HI376.out); (case side2 => exact bi HB.out); rintro e w13 ⟨v378, rfl, ho0, hi, hb, hk⟩; refine ⟨_, rfl, ?_⟩; have n0_ := Aside0.mk (Kd.S_lower ho0 (below_size (bi HB.out))); have n1_ := Aside0.mk (hb); have n2_ := Aside0.mk (hi); clear HB; clear HI376; have HO379 := n0_; have HB := n1_; have HI376 := n2_; clear n0_ n1_ n2_; (try clear hb); (try clear hb2); (try clear hk); (try clear hi); (try clear ho0); obtain ⟨Ao14, co14, eo14⟩ := Kd.S_slice HO379.out; subst eo14) | ((with_reducible refine gate_callee (f := 18) rfl ?_); refine goesM_ (some 9) rfl rfl Try.func18 #[.agg #[.slice Ao14 t377.length co14]] ?_; (with_reducible refine (spec_ImageBytes.calls k _ _ t377 t382 _ ?side1 ?side2 A4.out).mono ?_); (case side1 => repeat (first | exact (Kd.S_reads' HO379.out).2.2 | (with_reducible refine Kd.C_alloc ?_ _) | (with_reducible refine Kd.C_drewN ?_ _) | (with_reducible refine Kd.C_drew ?_))); (case side2 => exact (Kd.S_reads' HO379.out).2.1); rintro e w15 ⟨v383, rfl, ho0, hb⟩; refine ⟨_, rfl, ?_⟩; have n0_ := Aside0.mk (Kd.S_below (ks HO379.out) hb); have n1_ := Aside0.mk (Kd.R_lower ho0 (below_size (bi HB.out))); have n2_ := Aside0.mk (IsS107.below (si HI376.out) hb); have n3_ := Aside0.mk (below_step (bi HB.out) hb); clear HO379; clear HI376; clear HB; have HO379 := n0_; have HO384 := n1_; have HI376 := n2_; have HB := n3_; clear n0_ n1_ n2_ n3_; (try clear hb); (try clear hb2); (try clear hk); (try clear hi); (try clear ho0)) | ((with_reducible refine gate_callee (f := 60) rfl ?_); refine goesM_ (some 11) rfl rfl Try.func60 #[.pointer (some ⟨g376, 0, none⟩), .int .i64 8] ?_; (with_reducible refine (spec_l1Below.calls g376 t373 t380 t381 8 t385 t386 t387 w _ ?side1 ?side2 A5.out).mono ?_); (case side1 => exact si HI376.out); (case side2 => exact bi HB.out); rintro e w16 ⟨rfl, hi, hb, hk⟩; refine ⟨_, rfl, ?_⟩; have n0_ := Aside0.mk (Kd.S_mono (Kd.S_keep (IsS107.apartS (show IsS107 w _ g376 t373 t380 t381 from si HI376.out) (ks HO379.out) (by decide)) hk (fun _ h => h.2)) (fun _ h => h.1)); have n1_ := Aside0.mk (Kd.R_mono (Kd.R_keep (IsS107.apart (show IsS107 w _ g376 t373 t380 t381 from si HI376.out) (kr HO384.out) (by decide)) hk (fun _ h => h.2)) (fun _ h => h.1)); have n2_ := Aside0.mk (hb); have n3_ := Aside0.mk (hi); clear HO379; clear HO384; clear HB; clear HI376; have HO379 := n0_; have HO384 := n1_; have HB := n2_; have HI376 := n3_; clear n0_ n1_ n2_ n3_; (try clear hb); (try clear hb2); (try clear hk); (try clear hi)) | ((with_reducible refine gate_callee (f := 60) rfl ?_); refine goesM_ (some 16) rfl rfl Try.func60 #[.pointer (some ⟨g376, 0, none⟩), .int .i64 6] ?_; (with_reducible refine (spec_l1Below.calls g376 t373 t386 t387 6 t388 t389 t390 w _ ?side1 ?side2 A7.out).mono ?_); (case side1 => exact si HI376.out); (case side2 => exact bi HB.out); rintro e w17 ⟨rfl, hi, hb, hk⟩; refine ⟨_, rfl, ?_⟩; have n0_ := Aside0.mk (Kd.S_mono (Kd.S_keep (IsS107.apartS (show IsS107 w _ g376 t373 t386 t387 from si HI376.out) (ks HO379.out) (by decide)) hk (fun _ h => h.2)) (fun _ h => h.1)); have n1_ := Aside0.mk (Kd.R_mono (Kd.R_keep (IsS107.apart (show IsS107 w _ g376 t373 t386 t387 from si HI376.out) (kr HO384.out) (by decide)) hk (fun _ h => h.2)) (fun _ h => h.1)); have n2_ := Aside0.mk (hb); have n3_ := Aside0.mk (hi); clear HO379; clear HO384; clear HB; clear HI376; have HO379 := n0_; have HO384 := n1_; have HB := n2_; have HI376 := n3_; clear n0_ n1_ n2_ n3_; (try clear hb); (try clear hb2); (try clear hk); (try clear hi)) | ((with_reducible refine gate_dst (N := 18) rfl ?_); refine Kd.R_lit (Kd.int .i64) _ 3 ?hg (N := 18) ?hd (xs := ([0, 1, 8, 9, 50] : List Int)) (inner := [.int .i64 0, .int .i64 1, .int .i64 8, .int .i64 9, .int .i64 50]) (ok := fun _ => True) (okp := fun _ => True) ?hr ?hp (fun _ hk => hk) trivial (Below.refl _ _) (Nat.le_refl _) (by simp) ?_; (case hd => rfl); (case hg => rfl); (case hr => first | (go_simp; done) | (go_simp; rfl)); (case hp => exact (Reps.one (show Kd.M (Kd.int .i64) _ _ _ 0 [.int .i64 0] from rfl) (Reps.one (show Kd.M (Kd.int .i64) _ _ _ 1 [.int .i64 1] from rfl) (Reps.one (show Kd.M (Kd.int .i64) _ _ _ 8 [.int .i64 8] from rfl) (Reps.one (show Kd.M (Kd.int .i64) _ _ _ 9 [.int .i64 9] from rfl) (Reps.one (show Kd.M (Kd.int .i64) _ _ _ 50 [.int .i64 50] from rfl) (Reps.none _ _))))))); intro v392 w18 ho19 hb hg_ hnew_; clear hg_ hnew_; (first | rw [← Ny391.out] at ho19 | (simp only [Int.reduceToNat] at ho19; rw [← Ny391.out] at ho19)); have n0_ := Aside0.mk (Kd.S_elder' (ks HO379.out) (Kd.R_base ho19) hb); have n1_ := Aside0.mk (Kd.R_below (kr HO384.out) hb); have n2_ := Aside0.mk (Kd.R_lower ho19 (below_size (bi HB.out))); have n3_ := Aside0.mk (IsS107.below (si HI376.out) hb); have n4_ := Aside0.mk (below_step (bi HB.out) hb); clear HO379; clear HO384; clear HI376; clear HB; have HO379 := n0_; have HO384 := n1_; have HO393 := n2_; have HI376 := n3_; have HB := n4_; clear n0_ n1_ n2_ n3_ n4_; clear hb ho19; obtain ⟨Ao20, co20, eo20⟩ := Kd.R_slice HO393.out; subst eo20) | ((with_reducible refine gate_callee (f := 70) rfl ?_); refine goesM_ (some 19) rfl rfl Try.func70 #[.pointer (some ⟨g376, 0, none⟩), .slice Ao20 y391.length co20] ?_; (with_reducible refine (spec_l1PickInt.calls g376 t373 t389 t390 _ _ y391 t394 t395 t396 w _ ?side1 ?side2 ?side3 ?side4 ?side5 A8.out).mono ?_); (case side1 => exact si HI376.out); (case side2 => exact bi HB.out); (case side3 => repeat (first | exact (Kd.R_reads' HO393.out).2.2 | (with_reducible refine Kd.C_alloc ?_ _) | (with_reducible refine Kd.C_drewN ?_ _) | (with_reducible refine Kd.C_drew ?_))); (case side4 => exact (Kd.R_reads' HO393.out).2.1); (case side5 => exact far_slice (IsS107.own_ne HI376.out HO393.out (by decide))); rintro e w21 ⟨rfl, hi, hb, hk⟩; refine ⟨_, rfl, ?_⟩; have n0_ := Aside0.mk (Kd.S_mono (Kd.S_keep (IsS107.apartS (show IsS107 w _ g376 t373 t389 t390 from si HI376.out) (ks HO379.out) (by decide)) hk (fun _ h => h.2)) (fun _ h => h.1)); have n1_ := Aside0.mk (Kd.R_mono (Kd.R_keep (IsS107.apart (show IsS107 w _ g376 t373 t389 t390 from si HI376.out) (kr HO384.out) (by decide)) hk (fun _ h => h.2)) (fun _ h => h.1)); have n2_ := Aside0.mk (Kd.R_mono (Kd.R_keep (IsS107.apart (show IsS107 w _ g376 t373 t389 t390 from si HI376.out) (kr HO393.out) (by decide)) hk (fun _ h => h.2)) (fun _ h => h.1)); have n3_ := Aside0.mk (hb); have n4_ := Aside0.mk (hi); clear HO379; clear HO384; clear HO393; clear HB; clear HI376; have HO379 := n0_; have HO384 := n1_; have HO393 := n2_; have HB := n3_; have HI376 := n4_; clear n0_ n1_ n2_ n3_ n4_; (try clear hb); (try clear hb2); (try clear hk); (try clear hi); have p11 : 0 ≤ (t388 : Int) := dt; have q11 : (t388 : Int) < ((t382.length : Int) : Int) := dt; obtain ⟨go11, co11, eo11, gb11, gl11, cl11, HG11⟩ := Kd.R_form HO384.out (by omega); (first | cases eo11 | (injection eo11 with ea_ en_ ec_; (first | subst ea_ | (injection ea_ with ea_; subst ea_)); subst ec_; clear en_)); have GB11 := Aside0.mk gb11; have GG11 := Aside0.mk HG11; clear gb11 gl11 HG11; obtain ⟨hx11_0, hf11_0⟩ := Kd.R_celln 0 HO384.out (t388 : Int) p11 q11; replace p11 := eq_true p11; replace q11 := eq_true q11; obtain ⟨hy22_, hz22_⟩ := Kd.R_celln 0 HO384.out (t388 : Int) dt dt; have HP22 := Kd.R_putg HO384.out (t388 : Int) ((t394) % 256)) | ((with_reducible refine gate_store (t := 5) (p := 21) rfl ?_); refine store_event (t := 5) (p := 21) (v := ?vo_w23) (w1 := (w21.setCell ⟨go11, (t388 : Int).toNat, none⟩ (.int .u8 ((t394) % 256)))) ?hg ?ho ?hn ?hr ?_; (case ho => rfl); (case hg => rfl); (case hn => rfl); (case hr => first | (go_simp; done) | (go_simp; rfl)); intro w23 hw; have hg : w21.grownBy w23 (some go11) := (by rw [hw]; exact HP22.2); have hp_ : Kd.R (Kd.int .u8) 5 w23 w.heap.size (fun _ => True) (.slice (some ⟨go11, 0, none⟩) t382.length co11) y397 := (by rw [hw, Ny397.out]; exact HP22.1); clear HP22; have n0_ := Aside0.mk (IsS107.grown (si HI376.out) hg (IsS107.own_ne HI376.out HO384.out (by decide))); have n1_ := Aside0.mk (Kd.S_over' (v := (.slice (some ⟨go11, 0, none⟩) t382.length co11)) (ks HO379.out) (Kd.R_typed HO384.out) (by decide) hg); have n2_ := Aside0.mk (hp_); have n3_ := Aside0.mk (Kd.R_over' (v := (.slice (some ⟨go11, 0, none⟩) t382.length co11)) (kr HO393.out) (Kd.R_typed HO384.out) (by decide) hg); have n4_ := Aside0.mk ((by rw [hw]; exact below_set (HB.out) GB11.out : Below w.heap.size w w23)); clear HI376; clear HO379; clear HO384; clear HO393; clear HB; have HI376 := n0_; have HO379 := n1_; have HO384 := n2_; have HO393 := n3_; have HB := n4_; clear n0_ n1_ n2_ n3_ n4_; clear hg hw hp_))
    go_ret
    exact ⟨_, rt, kr HO384.out, bi HB.out⟩
   ·rw [if_neg c10] at H
    exact absurd H (by simp)
  ·rw [if_neg c9] at H
   exact absurd H (by simp)
 ·rw [if_neg c6] at H
  have c6b0 : (t385 == 0) = false := beq_eq_false_iff_ne.mpr c6
  have c6b1 : (t385 != 0) = true := bne_iff_ne.mpr c6
  by_cases c24 : t385 = 1
  ·rw [if_pos c24] at H
   have c24b0 : (t385 == 1) = true := beq_iff_eq.mpr c24
   have c24b1 : (t385 != 1) = false := bne_eq_false_iff_eq.mpr c24
   clear c24
   replace H := Option.bind_eq_some_iff.mp H
   obtain ⟨⟨t398, t399, t400⟩, A250, H⟩ := H
   replace H : (if 0 ≤ t398 then (if t398 ≤ (t382.length : Int) then (some (t382.take (t398 : Int).toNat)) else (none)) else (none)) = some r := H
   have A25 := Aside0.mk A250
   clear A250
   by_cases c26 : 0 ≤ t398
   ·rw [if_pos c26] at H
    have c26b0 := eq_true c26
    have c26b1 : decide (0 ≤ t398) = true := decide_eq_true c26
    clear c26
    by_cases c27 : t398 ≤ (t382.length : Int)
    ·rw [if_pos c27] at H
     have c27b0 := eq_true c27
     have c27b1 : decide (t398 ≤ (t382.length : Int)) = true := decide_eq_true c27
     clear c27
     obtain ⟨y401, hy401⟩ : ∃ y_ : List Int, y_ = (t382.take (t398 : Int).toNat) := ⟨_, rfl⟩
     replace H : (some y401) = some r := by first | (rw [hy401]; with_reducible exact H) | (have H2_ := (Option.bind_some _ _).symm.trans H; rw [hy401]; with_reducible exact H2_) | (have H2_ := (Option.bind_some _ _).symm.trans H; with_reducible exact H2_) | with_reducible exact H | (rw [hy401]; exact H) | exact H
     have Ny401 := Aside0.mk hy401
     clear hy401
     obtain rfl := Option.some.inj H
     go_enter Try.func23, Try.ntmps23
     go_wp2_with (first | ((with_reducible refine gate_callee (f := 57) rfl ?_); refine goesM_ (some 6) rfl rfl Try.func57 #[.slice A0 l0.length c0] ?_; (with_reducible refine (spec_l1New.calls k _ _ l0 t373 t374 t375 w _ ?side1 ?side2 ?side3 A2.out).mono ?_); (case side1 => exact bw HB.out); (case side2 => exact HR0.out); (case side3 => exact HC0.out); rintro e w28 ⟨g376, rfl, hi, hb, hb2⟩; refine ⟨_, rfl, ?_⟩; have n0_ := Aside0.mk (hb); have n1_ := Aside0.mk (hi); clear HB; have HB := n0_; have HI376 := n1_; clear n0_ n1_; (try clear hb); (try clear hb2); (try clear hk); (try clear hi)) | ((with_reducible refine gate_callee (f := 69) rfl ?_); refine goesM_ (some 8) rfl rfl Try.func69 #[.pointer (some ⟨g376, 0, none⟩)] ?_; (with_reducible refine (spec_l2DrawRight.calls k g376 t373 t374 t375 t377 t380 t381 w _ ?side1 ?side2 A3.out).mono ?_); (case side1 => exact si HI376.out); (case side2 => exact bi HB.out); rintro e w29 ⟨v378, rfl, ho0, hi, hb, hk⟩; refine ⟨_, rfl, ?_⟩; have n0_ := Aside0.mk (Kd.S_lower ho0 (below_size (bi HB.out))); have n1_ := Aside0.mk (hb); have n2_ := Aside0.mk (hi); clear HB; clear HI376; have HO379 := n0_; have HB := n1_; have HI376 := n2_; clear n0_ n1_ n2_; (try clear hb); (try clear hb2); (try clear hk); (try clear hi); (try clear ho0); obtain ⟨Ao30, co30, eo30⟩ := Kd.S_slice HO379.out; subst eo30) | ((with_reducible refine gate_callee (f := 18) rfl ?_); refine goesM_ (some 9) rfl rfl Try.func18 #[.agg #[.slice Ao30 t377.length co30]] ?_; (with_reducible refine (spec_ImageBytes.calls k _ _ t377 t382 _ ?side1 ?side2 A4.out).mono ?_); (case side1 => repeat (first | exact (Kd.S_reads' HO379.out).2.2 | (with_reducible refine Kd.C_alloc ?_ _) | (with_reducible refine Kd.C_drewN ?_ _) | (with_reducible refine Kd.C_drew ?_))); (case side2 => exact (Kd.S_reads' HO379.out).2.1); rintro e w31 ⟨v383, rfl, ho0, hb⟩; refine ⟨_, rfl, ?_⟩; have n0_ := Aside0.mk (Kd.S_below (ks HO379.out) hb); have n1_ := Aside0.mk (Kd.R_lower ho0 (below_size (bi HB.out))); have n2_ := Aside0.mk (IsS107.below (si HI376.out) hb); have n3_ := Aside0.mk (below_step (bi HB.out) hb); clear HO379; clear HI376; clear HB; have HO379 := n0_; have HO384 := n1_; have HI376 := n2_; have HB := n3_; clear n0_ n1_ n2_ n3_; (try clear hb); (try clear hb2); (try clear hk); (try clear hi); (try clear ho0)) | ((with_reducible refine gate_callee (f := 60) rfl ?_); refine goesM_ (some 11) rfl rfl Try.func60 #[.pointer (some ⟨g376, 0, none⟩), .int .i64 8] ?_; (with_reducible refine (spec_l1Below.calls g376 t373 t380 t381 8 t385 t386 t387 w _ ?side1 ?side2 A5.out).mono ?_); (case side1 => exact si HI376.out); (case side2 => exact bi HB.out); rintro e w32 ⟨rfl, hi, hb, hk⟩; refine ⟨_, rfl, ?_⟩; have n0_ := Aside0.mk (Kd.S_mono (Kd.S_keep (IsS107.apartS (show IsS107 w _ g376 t373 t380 t381 from si HI376.out) (ks HO379.out) (by decide)) hk (fun _ h => h.2)) (fun _ h => h.1)); have n1_ := Aside0.mk (Kd.R_mono (Kd.R_keep (IsS107.apart (show IsS107 w _ g376 t373 t380 t381 from si HI376.out) (kr HO384.out) (by decide)) hk (fun _ h => h.2)) (fun _ h => h.1)); have n2_ := Aside0.mk (hb); have n3_ := Aside0.mk (hi); clear HO379; clear HO384; clear HB; clear HI376; have HO379 := n0_; have HO384 := n1_; have HB := n2_; have HI376 := n3_; clear n0_ n1_ n2_ n3_; (try clear hb); (try clear hb2); (try clear hk); (try clear hi); obtain ⟨Ao33, co33, eo33⟩ := Kd.R_slice HO384.out; subst eo33) | ((with_reducible refine gate_callee (f := 60) rfl ?_); refine goesM_ (some 29) rfl rfl Try.func60 #[.pointer (some ⟨g376, 0, none⟩), .int .i64 (wrap64 ((t382.length : Int) + 1))] ?_; (with_reducible refine (spec_l1Below.calls g376 t373 t386 t387 (wrap64 ((t382.length : Int) + 1)) t398 t399 t400 w _ ?side1 ?side2 A25.out).mono ?_); (case side1 => exact si HI376.out); (case side2 => exact bi HB.out); rintro e w34 ⟨rfl, hi, hb, hk⟩; refine ⟨_, rfl, ?_⟩; have n0_ := Aside0.mk (Kd.S_mono (Kd.S_keep (IsS107.apartS (show IsS107 w _ g376 t373 t386 t387 from si HI376.out) (ks HO379.out) (by decide)) hk (fun _ h => h.2)) (fun _ h => h.1)); have n1_ := Aside0.mk (Kd.R_mono (Kd.R_keep (IsS107.apart (show IsS107 w _ g376 t373 t386 t387 from si HI376.out) (kr HO384.out) (by decide)) hk (fun _ h => h.2)) (fun _ h => h.1)); have n2_ := Aside0.mk (hb); have n3_ := Aside0.mk (hi); clear HO379; clear HO384; clear HB; clear HI376; have HO379 := n0_; have HO384 := n1_; have HB := n2_; have HI376 := n3_; clear n0_ n1_ n2_ n3_; (try clear hb); (try clear hb2); (try clear hk); (try clear hi); have q35 : (t398 : Int) ≤ ((t382.length : Int) : Int) := dt; obtain ⟨i035, hi035, _, hsz35, _⟩ := info_parts info5; have hcut35 := cut_to (P := Try.prog) 22 5 .i64 Try.underlying22 hi035 Ao33 t382.length co33 t398 dt q35 (Kd.R_reads' HO384.out).2.1; have hr35 := Kd.R_take (m := (t398 : Int).toNat) HO384.out (by omega); have hy35 : y401.length = (t398 : Int).toNat := (by rw [Ny401.out, List.length_take]; omega); rw [← Ny401.out] at hr35; rw [← hy35] at hr35 hcut35; clear hy35 hi035 hsz35 HO384; have HO403 := Aside0.mk hr35; clear hr35; replace q35 := eq_true q35))
     go_ret
     exact ⟨_, rt, kr HO403.out, bi HB.out⟩
    ·rw [if_neg c27] at H
     exact absurd H (by simp)
   ·rw [if_neg c26] at H
    exact absurd H (by simp)
  ·rw [if_neg c24] at H
   have c24b0 : (t385 == 1) = false := beq_eq_false_iff_ne.mpr c24
   have c24b1 : (t385 != 1) = true := bne_iff_ne.mpr c24
   by_cases c36 : t385 = 2
   ·rw [if_pos c36] at H
    have c36b0 : (t385 == 2) = true := beq_iff_eq.mpr c36
    have c36b1 : (t385 != 2) = false := bne_eq_false_iff_eq.mpr c36
    clear c36
    by_cases c37 : t382.length < 140737488355328
    ·rw [if_pos c37] at H
     have LMc37 := Aside0.mk c37
     clear c37
     obtain ⟨y404, hy404⟩ : ∃ y_ : List Int, y_ = (t382 ++ [0]) := ⟨_, rfl⟩
     replace H : (some y404) = some r := by first | (rw [hy404]; with_reducible exact H) | (have H2_ := (Option.bind_some _ _).symm.trans H; rw [hy404]; with_reducible exact H2_) | (have H2_ := (Option.bind_some _ _).symm.trans H; with_reducible exact H2_) | with_reducible exact H | (rw [hy404]; exact H) | exact H
     have Ny404 := Aside0.mk hy404
     clear hy404
     obtain rfl := Option.some.inj H
     go_enter Try.func23, Try.ntmps23
     go_wp2_with (first | ((with_reducible refine gate_callee (f := 57) rfl ?_); refine goesM_ (some 6) rfl rfl Try.func57 #[.slice A0 l0.length c0] ?_; (with_reducible refine (spec_l1New.calls k _ _ l0 t373 t374 t375 w _ ?side1 ?side2 ?side3 A2.out).mono ?_); (case side1 => exact bw HB.out); (case side2 => exact HR0.out); (case side3 => exact HC0.out); rintro e w38 ⟨g376, rfl, hi, hb, hb2⟩; refine ⟨_, rfl, ?_⟩; have n0_ := Aside0.mk (hb); have n1_ := Aside0.mk (hi); clear HB; have HB := n0_; have HI376 := n1_; clear n0_ n1_; (try clear hb); (try clear hb2); (try clear hk); (try clear hi)) | ((with_reducible refine gate_callee (f := 69) rfl ?_); refine goesM_ (some 8) rfl rfl Try.func69 #[.pointer (some ⟨g376, 0, none⟩)] ?_; (with_reducible refine (spec_l2DrawRight.calls k g376 t373 t374 t375 t377 t380 t381 w _ ?side1 ?side2 A3.out).mono ?_); (case side1 => exact si HI376.out); (case side2 => exact bi HB.out); rintro e w39 ⟨v378, rfl, ho0, hi, hb, hk⟩; refine ⟨_, rfl, ?_⟩; have n0_ := Aside0.mk (Kd.S_lower ho0 (below_size (bi HB.out))); have n1_ := Aside0.mk (hb); have n2_ := Aside0.mk (hi); clear HB; clear HI376; have HO379 := n0_; have HB := n1_; have HI376 := n2_; clear n0_ n1_ n2_; (try clear hb); (try clear hb2); (try clear hk); (try clear hi); (try clear ho0); obtain ⟨Ao40, co40, eo40⟩ := Kd.S_slice HO379.out; subst eo40) | ((with_reducible refine gate_callee (f := 18) rfl ?_); refine goesM_ (some 9) rfl rfl Try.func18 #[.agg #[.slice Ao40 t377.length co40]] ?_; (with_reducible refine (spec_ImageBytes.calls k _ _ t377 t382 _ ?side1 ?side2 A4.out).mono ?_); (case side1 => repeat (first | exact (Kd.S_reads' HO379.out).2.2 | (with_reducible refine Kd.C_alloc ?_ _) | (with_reducible refine Kd.C_drewN ?_ _) | (with_reducible refine Kd.C_drew ?_))); (case side2 => exact (Kd.S_reads' HO379.out).2.1); rintro e w41 ⟨v383, rfl, ho0, hb⟩; refine ⟨_, rfl, ?_⟩; have n0_ := Aside0.mk (Kd.S_below (ks HO379.out) hb); have n1_ := Aside0.mk (Kd.R_lower ho0 (below_size (bi HB.out))); have n2_ := Aside0.mk (IsS107.below (si HI376.out) hb); have n3_ := Aside0.mk (below_step (bi HB.out) hb); clear HO379; clear HI376; clear HB; have HO379 := n0_; have HO384 := n1_; have HI376 := n2_; have HB := n3_; clear n0_ n1_ n2_ n3_; (try clear hb); (try clear hb2); (try clear hk); (try clear hi); (try clear ho0)) | ((with_reducible refine gate_callee (f := 60) rfl ?_); refine goesM_ (some 11) rfl rfl Try.func60 #[.pointer (some ⟨g376, 0, none⟩), .int .i64 8] ?_; (with_reducible refine (spec_l1Below.calls g376 t373 t380 t381 8 t385 t386 t387 w _ ?side1 ?side2 A5.out).mono ?_); (case side1 => exact si HI376.out); (case side2 => exact bi HB.out); rintro e w42 ⟨rfl, hi, hb, hk⟩; refine ⟨_, rfl, ?_⟩; have n0_ := Aside0.mk (Kd.S_mono (Kd.S_keep (IsS107.apartS (show IsS107 w _ g376 t373 t380 t381 from si HI376.out) (ks HO379.out) (by decide)) hk (fun _ h => h.2)) (fun _ h => h.1)); have n1_ := Aside0.mk (Kd.R_mono (Kd.R_keep (IsS107.apart (show IsS107 w _ g376 t373 t380 t381 from si HI376.out) (kr HO384.out) (by decide)) hk (fun _ h => h.2)) (fun _ h => h.1)); have n2_ := Aside0.mk (hb); have n3_ := Aside0.mk (hi); clear HO379; clear HO384; clear HB; clear HI376; have HO379 := n0_; have HO384 := n1_; have HB := n2_; have HI376 := n3_; clear n0_ n1_ n2_ n3_; (try clear hb); (try clear hb2); (try clear hk); (try clear hi)) | ((with_reducible refine gate_builtin (b := .append) (xs := #[.tmp 33, .tmp 34]) rfl ?_); at_builtin; refine Kd.R_append (Kd.int .u8) (w0 := w) w.heap.size rfl (.tmp 33) (.tmp 34) 22 5 (.int .u8 0) 1 rfl Try.underlying22 info5 rfl (by decide) (by omega) v383 t382 0 [.int .u8 0] (fun _ => True) (fun _ => False) rfl rfl ?aP (fun _ hk => hk.elim) ?aF ?aO ?aB ?aS ?aL ?_; (case aP => exact rfl); (case aB => exact (bi HB.out)); (case aF => exact (fun _ _ => trivial)); (case aO => exact (kr HO384.out)); (case aS => exact (below_size (bi HB.out))); (case aL => have := LMc37.out; omega); intro v405 w43 ho hb hg hat; rw [← Ny404.out] at ho; have n0_ := Aside0.mk (IsS107.grown (si HI376.out) hg (IsS107.own_ne HI376.out HO384.out (by decide))); have n1_ := Aside0.mk (Kd.S_over' (ks HO379.out) (Kd.R_typed (kr HO384.out)) (by decide) hg); have n2_ := Aside0.mk (hb); have n3_ := Aside0.mk (ho); clear HI376; clear HO379; clear HB; clear HO384; have HI376 := n0_; have HO379 := n1_; have HB := n2_; have HO406 := n3_; clear n0_ n1_ n2_ n3_; clear ho hb hg hat))
     go_ret
     exact ⟨_, rt, kr HO406.out, bi HB.out⟩
    ·rw [if_neg c37] at H
     exact absurd H (by simp)
   ·rw [if_neg c36] at H
    have c36b0 : (t385 == 2) = false := beq_eq_false_iff_ne.mpr c36
    have c36b1 : (t385 != 2) = true := bne_iff_ne.mpr c36
    by_cases c44 : t385 = 3
    ·rw [if_pos c44] at H
     have c44b0 : (t385 == 3) = true := beq_iff_eq.mpr c44
     have c44b1 : (t385 != 3) = false := bne_eq_false_iff_eq.mpr c44
     clear c44
     by_cases c45 : 9 < (t382.length : Int)
     ·rw [if_pos c45] at H
      have c45b0 : decide (9 < (t382.length : Int)) = true := decide_eq_true c45
      have c45b1 : decide (9 < t382.length) = true := decide_eq_true (by omega)
      clear c45
      obtain ⟨y408, hy408⟩ : ∃ y_ : List Int, y_ = (t382.set (9 : Int).toNat (((rd t382 9) + 1) % 256)) := ⟨_, rfl⟩
      replace H : (some y408) = some r := by first | (rw [hy408]; with_reducible exact H) | (have H2_ := (Option.bind_some _ _).symm.trans H; rw [hy408]; with_reducible exact H2_) | (have H2_ := (Option.bind_some _ _).symm.trans H; with_reducible exact H2_) | with_reducible exact H | (rw [hy408]; exact H) | exact H
      have Ny408 := Aside0.mk hy408
      clear hy408
      obtain rfl := Option.some.inj H
      go_enter Try.func23, Try.ntmps23
      go_wp2_with (first | ((with_reducible refine gate_callee (f := 57) rfl ?_); refine goesM_ (some 6) rfl rfl Try.func57 #[.slice A0 l0.length c0] ?_; (with_reducible refine (spec_l1New.calls k _ _ l0 t373 t374 t375 w _ ?side1 ?side2 ?side3 A2.out).mono ?_); (case side1 => exact bw HB.out); (case side2 => exact HR0.out); (case side3 => exact HC0.out); rintro e w47 ⟨g376, rfl, hi, hb, hb2⟩; refine ⟨_, rfl, ?_⟩; have n0_ := Aside0.mk (hb); have n1_ := Aside0.mk (hi); clear HB; have HB := n0_; have HI376 := n1_; clear n0_ n1_; (try clear hb); (try clear hb2); (try clear hk); (try clear hi)) | ((with_reducible refine gate_callee (f := 69) rfl ?_); refine goesM_ (some 8) rfl rfl Try.func69 #[.pointer (some ⟨g376, 0, none⟩)] ?_; (with_reducible refine (spec_l2DrawRight.calls k g376 t373 t374 t375 t377 t380 t381 w _ ?side1 ?side2 A3.out).mono ?_); (case side1 => exact si HI376.out); (case side2 => exact bi HB.out); rintro e w48 ⟨v378, rfl, ho0, hi, hb, hk⟩; refine ⟨_, rfl, ?_⟩; have n0_ := Aside0.mk (Kd.S_lower ho0 (below_size (bi HB.out))); have n1_ := Aside0.mk (hb); have n2_ := Aside0.mk (hi); clear HB; clear HI376; have HO379 := n0_; have HB := n1_; have HI376 := n2_; clear n0_ n1_ n2_; (try clear hb); (try clear hb2); (try clear hk); (try clear hi); (try clear ho0); obtain ⟨Ao49, co49, eo49⟩ := Kd.S_slice HO379.out; subst eo49) | ((with_reducible refine gate_callee (f := 18) rfl ?_); refine goesM_ (some 9) rfl rfl Try.func18 #[.agg #[.slice Ao49 t377.length co49]] ?_; (with_reducible refine (spec_ImageBytes.calls k _ _ t377 t382 _ ?side1 ?side2 A4.out).mono ?_); (case side1 => repeat (first | exact (Kd.S_reads' HO379.out).2.2 | (with_reducible refine Kd.C_alloc ?_ _) | (with_reducible refine Kd.C_drewN ?_ _) | (with_reducible refine Kd.C_drew ?_))); (case side2 => exact (Kd.S_reads' HO379.out).2.1); rintro e w50 ⟨v383, rfl, ho0, hb⟩; refine ⟨_, rfl, ?_⟩; have n0_ := Aside0.mk (Kd.S_below (ks HO379.out) hb); have n1_ := Aside0.mk (Kd.R_lower ho0 (below_size (bi HB.out))); have n2_ := Aside0.mk (IsS107.below (si HI376.out) hb); have n3_ := Aside0.mk (below_step (bi HB.out) hb); clear HO379; clear HI376; clear HB; have HO379 := n0_; have HO384 := n1_; have HI376 := n2_; have HB := n3_; clear n0_ n1_ n2_ n3_; (try clear hb); (try clear hb2); (try clear hk); (try clear hi); (try clear ho0)) | ((with_reducible refine gate_callee (f := 60) rfl ?_); refine goesM_ (some 11) rfl rfl Try.func60 #[.pointer (some ⟨g376, 0, none⟩), .int .i64 8] ?_; (with_reducible refine (spec_l1Below.calls g376 t373 t380 t381 8 t385 t386 t387 w _ ?side1 ?side2 A5.out).mono ?_); (case side1 => exact si HI376.out); (case side2 => exact bi HB.out); rintro e w51 ⟨rfl, hi, hb, hk⟩; refine ⟨_, rfl, ?_⟩; have n0_ := Aside0.mk (Kd.S_mono (Kd.S_keep (IsS107.apartS (show IsS107 w _ g376 t373 t380 t381 from si HI376.out) (ks HO379.out) (by decide)) hk (fun _ h => h.2)) (fun _ h => h.1)); have n1_ := Aside0.mk (Kd.R_mono (Kd.R_keep (IsS107.apart (show IsS107 w _ g376 t373 t380 t381 from si HI376.out) (kr HO384.out) (by decide)) hk (fun _ h => h.2)) (fun _ h => h.1)); have n2_ := Aside0.mk (hb); have n3_ := Aside0.mk (hi); clear HO379; clear HO384; clear HB; clear HI376; have HO379 := n0_; have HO384 := n1_; have HB := n2_; have HI376 := n3_; clear n0_ n1_ n2_ n3_; (try clear hb); (try clear hb2); (try clear hk); (try clear hi); obtain ⟨Ao52, co52, eo52⟩ := Kd.R_slice HO384.out; subst eo52; have p407 : 0 ≤ (9 : Int) := (by omega); have q407 : 9 < (t382.length : Int) := dt; obtain ⟨ad407, e407, hx407_0⟩ := Kd.at_int (Kd.R_reads' HO384.out).2.2 9 p407 q407; cases e407; (try simp only [show (9 : Int).toNat = 9 from rfl, Nat.reduceMul, Nat.reduceEqDiff, Go.Addr.add, ↓reduceIte] at hx407_0); have qi407 : (9 < t382.length) = True := eq_true (by omega); (try rw [show ((9 : Int)).toNat = 9 from rfl] at hx407_0); replace p407 := eq_true p407; replace q407 := eq_true q407; have p46 : 0 ≤ (9 : Int) := (by omega); have q46 : (9 : Int) < ((t382.length : Int) : Int) := dt; have qi46 : (9 < t382.length) = True := eq_true (by omega); obtain ⟨go46, co46, eo46, gb46, gl46, cl46, HG46⟩ := Kd.R_form HO384.out (by omega); (first | cases eo46 | (injection eo46 with ea_ en_ ec_; (first | subst ea_ | (injection ea_ with ea_; subst ea_)); subst ec_; clear en_)); have GB46 := Aside0.mk gb46; have GG46 := Aside0.mk HG46; clear gb46 gl46 HG46; (first | simp only [add_plain] at hx407_0 | skip); obtain ⟨hx46_0, hf46_0⟩ := Kd.R_celln 0 HO384.out (9 : Int) p46 q46; (try rw [show ((9 : Int)).toNat = 9 from rfl] at hx46_0); (try simp only [Nat.reduceMul, Nat.zero_mul, Nat.zero_add, Nat.reduceAdd] at hx46_0); (try rw [show ((9 : Int)).toNat = 9 from rfl] at hf46_0); (try simp only [Nat.reduceMul, Nat.zero_mul, Nat.zero_add, Nat.reduceAdd] at hf46_0); replace p46 := eq_true p46; replace q46 := eq_true q46; obtain ⟨hy53_, hz53_⟩ := Kd.R_celln 0 HO384.out (9 : Int) (by omega) dt; (try simp only [Int.reduceToNat, Int.toNat_zero, Int.toNat_ofNat, Nat.reduceMul, Nat.zero_mul, Nat.zero_add] at hy53_ hz53_); (try rw [show ((9 : Int)).toNat = 9 from rfl] at hy53_); (try rw [show ((9 : Int)).toNat = 9 from rfl] at hz53_); have HP53 := Kd.R_putg HO384.out (9 : Int) (((rd t382 9) + 1) % 256)) | ((with_reducible refine gate_store (t := 5) (p := 42) rfl ?_); refine store_event (t := 5) (p := 42) (v := ?vo_w54) (w1 := (w51.setCell ⟨go46, (9 : Int).toNat, none⟩ (.int .u8 (((rd t382 9) + 1) % 256)))) ?hg ?ho ?hn ?hr ?_; (case ho => rfl); (case hg => rfl); (case hn => rfl); (case hr => first | (go_simp; done) | (go_simp; rfl)); intro w54 hw; have hg : w51.grownBy w54 (some go46) := (by rw [hw]; exact HP53.2); have hp_ : Kd.R (Kd.int .u8) 5 w54 w.heap.size (fun _ => True) (.slice (some ⟨go46, 0, none⟩) t382.length co52) y408 := (by rw [hw, Ny408.out]; exact HP53.1); clear HP53; have n0_ := Aside0.mk (IsS107.grown (si HI376.out) hg (IsS107.own_ne HI376.out HO384.out (by decide))); have n1_ := Aside0.mk (Kd.S_over' (v := (.slice (some ⟨go46, 0, none⟩) t382.length co52)) (ks HO379.out) (Kd.R_typed HO384.out) (by decide) hg); have n2_ := Aside0.mk (hp_); have n3_ := Aside0.mk ((by rw [hw]; exact below_set (HB.out) GB46.out : Below w.heap.size w w54)); clear HI376; clear HO379; clear HO384; clear HB; have HI376 := n0_; have HO379 := n1_; have HO384 := n2_; have HB := n3_; clear n0_ n1_ n2_ n3_; clear hg hw hp_))
      go_ret
      exact ⟨_, rt, kr HO384.out, bi HB.out⟩
     ·rw [if_neg c45] at H
      exact absurd H (by simp)
    ·rw [if_neg c44] at H
     have c44b0 : (t385 == 3) = false := beq_eq_false_iff_ne.mpr c44
     have c44b1 : (t385 != 3) = true := bne_iff_ne.mpr c44
     obtain rfl := Option.some.inj H
     go_enter Try.func23, Try.ntmps23
     go_wp2_with (first | ((with_reducible refine gate_callee (f := 57) rfl ?_); refine goesM_ (some 6) rfl rfl Try.func57 #[.slice A0 l0.length c0] ?_; (with_reducible refine (spec_l1New.calls k _ _ l0 t373 t374 t375 w _ ?side1 ?side2 ?side3 A2.out).mono ?_); (case side1 => exact bw HB.out); (case side2 => exact HR0.out); (case side3 => exact HC0.out); rintro e w55 ⟨g376, rfl, hi, hb, hb2⟩; refine ⟨_, rfl, ?_⟩; have n0_ := Aside0.mk (hb); have n1_ := Aside0.mk (hi); clear HB; have HB := n0_; have HI376 := n1_; clear n0_ n1_; (try clear hb); (try clear hb2); (try clear hk); (try clear hi)) | ((with_reducible refine gate_callee (f := 69) rfl ?_); refine goesM_ (some 8) rfl rfl Try.func69 #[.pointer (some ⟨g376, 0, none⟩)] ?_; (with_reducible refine (spec_l2DrawRight.calls k g376 t373 t374 t375 t377 t380 t381 w _ ?side1 ?side2 A3.out).mono ?_); (case side1 => exact si HI376.out); (case side2 => exact bi HB.out); rintro e w56 ⟨v378, rfl, ho0, hi, hb, hk⟩; refine ⟨_, rfl, ?_⟩; have n0_ := Aside0.mk (Kd.S_lower ho0 (below_size (bi HB.out))); have n1_ := Aside0.mk (hb); have n2_ := Aside0.mk (hi); clear HB; clear HI376; have HO379 := n0_; have HB := n1_; have HI376 := n2_; clear n0_ n1_ n2_; (try clear hb); (try clear hb2); (try clear hk); (try clear hi); (try clear ho0); obtain ⟨Ao57, co57, eo57⟩ := Kd.S_slice HO379.out; subst eo57) | ((with_reducible refine gate_callee (f := 18) rfl ?_); refine goesM_ (some 9) rfl rfl Try.func18 #[.agg #[.slice Ao57 t377.length co57]] ?_; (with_reducible refine (spec_ImageBytes.calls k _ _ t377 t382 _ ?side1 ?side2 A4.out).mono ?_); (case side1 => repeat (first | exact (Kd.S_reads' HO379.out).2.2 | (with_reducible refine Kd.C_alloc ?_ _) | (with_reducible refine Kd.C_drewN ?_ _) | (with_reducible refine Kd.C_drew ?_))); (case side2 => exact (Kd.S_reads' HO379.out).2.1); rintro e w58 ⟨v383, rfl, ho0, hb⟩; refine ⟨_, rfl, ?_⟩; have n0_ := Aside0.mk (Kd.S_below (ks HO379.out) hb); have n1_ := Aside0.mk (Kd.R_lower ho0 (below_size (bi HB.out))); have n2_ := Aside0.mk (IsS107.below (si HI376.out) hb); have n3_ := Aside0.mk (below_step (bi HB.out) hb); clear HO379; clear HI376; clear HB; have HO379 := n0_; have HO384 := n1_; have HI376 := n2_; have HB := n3_; clear n0_ n1_ n2_ n3_; (try clear hb); (try clear hb2); (try clear hk); (try clear hi); (try clear ho0)) | ((with_reducible refine gate_callee (f := 60) rfl ?_); refine goesM_ (some 11) rfl rfl Try.func60 #[.pointer (some ⟨g376, 0, none⟩), .int .i64 8] ?_; (with_reducible refine (spec_l1Below.calls g376 t373 t380 t381 8 t385 t386 t387 w _ ?side1 ?side2 A5.out).mono ?_); (case side1 => exact si HI376.out); (case side2 => exact bi HB.out); rintro e w59 ⟨rfl, hi, hb, hk⟩; refine ⟨_, rfl, ?_⟩; have n0_ := Aside0.mk (Kd.S_mono (Kd.S_keep (IsS107.apartS (show IsS107 w _ g376 t373 t380 t381 from si HI376.out) (ks HO379.out) (by decide)) hk (fun _ h => h.2)) (fun _ h => h.1)); have n1_ := Aside0.mk (Kd.R_mono (Kd.R_keep (IsS107.apart (show IsS107 w _ g376 t373 t380 t381 from si HI376.out) (kr HO384.out) (by decide)) hk (fun _ h => h.2)) (fun _ h => h.1)); have n2_ := Aside0.mk (hb); have n3_ := Aside0.mk (hi); clear HO379; clear HO384; clear HB; clear HI376; have HO379 := n0_; have HO384 := n1_; have HB := n2_; have HI376 := n3_; clear n0_ n1_ n2_ n3_; (try clear hb); (try clear hb2); (try clear hk); (try clear hi)))
     go_ret
     exact ⟨_, rt, kr HO384.out, bi HB.out⟩

/-! ### spec_ImageRead: function 24 -/
mutual
def spec_ImageRead.j0 : Nat → List Int → Bool → Option ((List (List Int)) × Int)
 | 0, _, _ => none
 | k + 1, x0, x21 => if x21 = true then (some (([] : List (List Int)), 1)) else (if 4 < (x0.length : Int) then ((spec_l1In.f (wrap64 (rd x0 4)) 1 8).bind fun t413 => (if t413 = true then (if (wrap64 ((x0.length : Int) - 6)) < (wrap64 ((wrap64 (rd x0 4)) * 256)) then (some (([] : List (List Int)), 3)) else (if (wrap64 ((x0.length : Int) - 6)) > (wrap64 ((wrap64 (rd x0 4)) * 256)) then (some (([] : List (List Int)), 4)) else (spec_ImageRead.l0 k x0 (wrap64 (rd x0 4)) 0 0 ([] : List (List Int))))) else (some (([] : List (List Int)), 2)))) else (none))
def spec_ImageRead.l0 : Nat → List Int → Int → Int → Int → List (List Int) → Option ((List (List Int)) × Int)
 | 0, _, _, _, _, _ => none
 | k + 1, x0, x5, x7, x8, x415000 => if x8 < x5 then (spec_ImageRead.l1 k x0 x5 x7 x8 (([] : List Int)) 0 x415000) else ((spec_Byte.f x7).bind fun t415 => (if 5 < (x0.length : Int) then (if t415 = (wrap64 (rd x0 5)) then (some (x415000, 0)) else (some (([] : List (List Int)), 5))) else (none)))
def spec_ImageRead.l1 : Nat → List Int → Int → Int → Int → List Int → Int → List (List Int) → Option ((List (List Int)) × Int)
 | 0, _, _, _, _, _, _, _ => none
 | k + 1, x0, x5, x7, x8, x9, x10, x415000 => if x10 < 256 then (if 0 ≤ (wrap64 ((wrap64 (6 + (wrap64 (x8 * 256)))) + x10)) then (if (wrap64 ((wrap64 (6 + (wrap64 (x8 * 256)))) + x10)) < (x0.length : Int) then (if x9.length < 17592186044416 then (spec_ImageRead.l1 k x0 x5 (wrap64 (x7 + (wrap64 (rd x0 (wrap64 ((wrap64 (6 + (wrap64 (x8 * 256)))) + x10)))))) x8 (x9 ++ [wrap64 (rd x0 (wrap64 ((wrap64 (6 + (wrap64 (x8 * 256)))) + x10)))]) (wrap64 (x10 + 1)) x415000) else (none)) else (none)) else (none)) else (if x415000.length < 5864062014805 then (spec_ImageRead.l0 k x0 x5 x7 (wrap64 (x8 + 1)) (x415000 ++ [x9])) else (none))
end
def spec_ImageRead.f (k : Nat) (l0 : List Int) : Option ((List (List Int)) × Int) := if (l0.length : Int) < 6 then (spec_ImageRead.j0 k l0 true) else (if 4 ≤ (l0.length : Int) then (spec_ImageRead.j0 k l0 ((strOfNums (l0.take 4)).toList != ([50, 67, 76, 75] : List UInt8))) else (none))
theorem spec_ImageRead.mono_l : ∀ k, (∀ y0 y1, LeO (spec_ImageRead.j0 k y0 y1) (spec_ImageRead.j0 (k + 1) y0 y1)) ∧ (∀ y0 y1 y2 y3 y4, LeO (spec_ImageRead.l0 k y0 y1 y2 y3 y4) (spec_ImageRead.l0 (k + 1) y0 y1 y2 y3 y4)) ∧ (∀ y0 y1 y2 y3 y4 y5 y6, LeO (spec_ImageRead.l1 k y0 y1 y2 y3 y4 y5 y6) (spec_ImageRead.l1 (k + 1) y0 y1 y2 y3 y4 y5 y6))
 | 0 => ⟨fun _ _ r h => by simp [spec_ImageRead.j0] at h, fun _ _ _ _ _ r h => by simp [spec_ImageRead.l0] at h, fun _ _ _ _ _ _ _ r h => by simp [spec_ImageRead.l1] at h⟩
 | k + 1 => by
  obtain ⟨ih0, ih1, ih2⟩ := spec_ImageRead.mono_l k
  refine ⟨?_, ?_, ?_⟩
  ·intro y0 y1
   unfold spec_ImageRead.j0
   repeat' first
   | (with_reducible exact ih0 _ _)
   | (with_reducible exact ih1 _ _ _ _ _)
   | (with_reducible exact ih2 _ _ _ _ _ _ _)
   | (with_reducible exact LeO.refl _)
   | (with_reducible exact LeO.none _)
   | (with_reducible refine LeO.ite ?_ ?_)
   | (with_reducible refine LeO.bind ?_ (fun _ => ?_))
   | exact ih0 _ _
   | exact ih1 _ _ _ _ _
   | exact ih2 _ _ _ _ _ _ _
   | exact LeO.none _
   | refine LeO.ite ?_ ?_
   | refine LeO.bind ?_ (fun _ => ?_)
  ·intro y0 y1 y2 y3 y4
   unfold spec_ImageRead.l0
   repeat' first
   | (with_reducible exact ih0 _ _)
   | (with_reducible exact ih1 _ _ _ _ _)
   | (with_reducible exact ih2 _ _ _ _ _ _ _)
   | (with_reducible exact LeO.refl _)
   | (with_reducible exact LeO.none _)
   | (with_reducible refine LeO.ite ?_ ?_)
   | (with_reducible refine LeO.bind ?_ (fun _ => ?_))
   | exact ih0 _ _
   | exact ih1 _ _ _ _ _
   | exact ih2 _ _ _ _ _ _ _
   | exact LeO.none _
   | refine LeO.ite ?_ ?_
   | refine LeO.bind ?_ (fun _ => ?_)
  ·intro y0 y1 y2 y3 y4 y5 y6
   unfold spec_ImageRead.l1
   repeat' first
   | (with_reducible exact ih0 _ _)
   | (with_reducible exact ih1 _ _ _ _ _)
   | (with_reducible exact ih2 _ _ _ _ _ _ _)
   | (with_reducible exact LeO.refl _)
   | (with_reducible exact LeO.none _)
   | (with_reducible refine LeO.ite ?_ ?_)
   | (with_reducible refine LeO.bind ?_ (fun _ => ?_))
   | exact ih0 _ _
   | exact ih1 _ _ _ _ _
   | exact ih2 _ _ _ _ _ _ _
   | exact LeO.none _
   | refine LeO.ite ?_ ?_
   | refine LeO.bind ?_ (fun _ => ?_)
theorem spec_ImageRead.mono : ∀ a0 k, LeO (spec_ImageRead.f k a0) (spec_ImageRead.f (k + 1) a0) := by
 intro a0 k
 obtain ⟨ih0, ih1, ih2⟩ := spec_ImageRead.mono_l k
 unfold spec_ImageRead.f
 repeat' first
   | (with_reducible exact ih0 _ _)
   | (with_reducible exact ih1 _ _ _ _ _)
   | (with_reducible exact ih2 _ _ _ _ _ _ _)
   | (with_reducible exact LeO.refl _)
   | (with_reducible exact LeO.none _)
   | (with_reducible refine LeO.ite ?_ ?_)
   | (with_reducible refine LeO.bind ?_ (fun _ => ?_))
   | exact ih0 _ _
   | exact ih1 _ _ _ _ _
   | exact ih2 _ _ _ _ _ _ _
   | exact LeO.none _
   | refine LeO.ite ?_ ?_
   | refine LeO.bind ?_ (fun _ => ?_)
set_option maxHeartbeats 8000000 in
set_option maxRecDepth 100000 in
theorem spec_ImageRead.calls (k : Nat) (A0 : Option Addr) (c0 : Nat) (l0 : List Int) (r1 : List (List Int)) (r2 : Int) (w : World) (hr0 : Kd.C (Kd.int .u8) w A0 l0.length l0) (hc0 : l0.length ≤ c0) (h : spec_ImageRead.f k l0 = some (r1, r2)) :
  Calls Try.prog 24 #[.slice A0 l0.length c0] w fun e w' => ∃ v0_ : Value, e = .returned (.tuple #[.agg #[v0_], .int .i64 r2]) ∧ Kd.S (Kd.slice 3 (Kd.int .i64)) 30 w' w.heap.size (fun _ => True) v0_ r1 ∧ Below w.heap.size w w' := by
 have hu29 := Try.underlying29
 have HR0 := Aside0.mk hr0
 have HC0 := Aside0.mk hc0
 clear hr0 hc0
 have HB := Aside0.mk (Below.refl w.heap.size w)
 have H : (if (l0.length : Int) < 6 then (spec_ImageRead.j0 k l0 true) else (if 4 ≤ (l0.length : Int) then (spec_ImageRead.j0 k l0 ((strOfNums (l0.take 4)).toList != ([50, 67, 76, 75] : List UInt8))) else (none))) = some (r1, r2) := h
 clear h
 have HC2 := Aside0.mk H
 clear H
 go_enter Try.func24, Try.ntmps24
 go_upto_region 2 with (first | ((with_reducible refine gate_dst (N := 2) rfl ?_); refine bx (N := 2) (cs := #[.slice none 0 0]) (t := 29) ?_; intro gb409 hg w3 hbox hb; have n0_ := Aside0.mk (below_step (bw HB.out) hb); have n1_ := Aside0.mk (hbox); have n2_ := Aside0.mk ((gs hg (bw HB.out))); have n3_ := Aside0.mk ((gs hg (bw HB.out))); clear HB; have HB := n0_; have BK409 := n1_; have GW409 := n2_; have GE409 := n3_; clear n0_ n1_ n2_ n3_; clear hb hbox hg) | ((with_reducible refine gate_dst (N := 4) rfl ?_); refine bx (N := 4) (cs := #[.slice none 0 0]) (t := 29) ?_; intro gb410 hg w4 hbox hb; have n0_ := Aside0.mk (blk_below (g := gb409) (o := .cells #[.slice none 0 0] 29 (0, 0)) (kb BK409.out) hb); have n1_ := Aside0.mk (below_step (bw HB.out) hb); have n2_ := Aside0.mk (hbox); have n3_ := Aside0.mk ((gs hg (bw HB.out))); have n4_ := Aside0.mk ((gs hg (bw HB.out))); have n5_ := Aside0.mk ((ga hg BK409.out)); have n6_ := Aside0.mk ((gc hg BK409.out)); clear BK409; clear HB; have BK409 := n0_; have HB := n1_; have BK410 := n2_; have GW410 := n3_; have GE410 := n4_; have NB409_410 := n5_; have NB410_409 := n6_; clear n0_ n1_ n2_ n3_ n4_ n5_ n6_; clear hb hbox hg; have hnb5 := NB410_409.out; have hnc5 := NB409_410.out; have hcz6_0 : w4.cell? ⟨gb410, 0, none⟩ = some (.slice none 0 0) := (blk_cell BK410.out 0).trans rfl; have hfz6_0 := blk_frozen BK410.out 0))
 repeat (go_quiet (first | ((with_reducible refine gate_dst (N := 2) rfl ?_); refine bx (N := 2) (cs := #[.slice none 0 0]) (t := 29) ?_; intro gb409 hg w3 hbox hb; have n0_ := Aside0.mk (below_step (bw HB.out) hb); have n1_ := Aside0.mk (hbox); have n2_ := Aside0.mk ((gs hg (bw HB.out))); have n3_ := Aside0.mk ((gs hg (bw HB.out))); clear HB; have HB := n0_; have BK409 := n1_; have GW409 := n2_; have GE409 := n3_; clear n0_ n1_ n2_ n3_; clear hb hbox hg) | ((with_reducible refine gate_dst (N := 4) rfl ?_); refine bx (N := 4) (cs := #[.slice none 0 0]) (t := 29) ?_; intro gb410 hg w4 hbox hb; have n0_ := Aside0.mk (blk_below (g := gb409) (o := .cells #[.slice none 0 0] 29 (0, 0)) (kb BK409.out) hb); have n1_ := Aside0.mk (below_step (bw HB.out) hb); have n2_ := Aside0.mk (hbox); have n3_ := Aside0.mk ((gs hg (bw HB.out))); have n4_ := Aside0.mk ((gs hg (bw HB.out))); have n5_ := Aside0.mk ((ga hg BK409.out)); have n6_ := Aside0.mk ((gc hg BK409.out)); clear BK409; clear HB; have BK409 := n0_; have HB := n1_; have BK410 := n2_; have GW410 := n3_; have GE410 := n4_; have NB409_410 := n5_; have NB410_409 := n6_; clear n0_ n1_ n2_ n3_ n4_ n5_ n6_; clear hb hbox hg; have hnb5 := NB410_409.out; have hnc5 := NB409_410.out; have hcz6_0 : w4.cell? ⟨gb410, 0, none⟩ = some (.slice none 0 0) := (blk_cell BK410.out 0).trans rfl; have hfz6_0 := blk_frozen BK410.out 0)); go_upto_region 2 with (first | ((with_reducible refine gate_dst (N := 2) rfl ?_); refine bx (N := 2) (cs := #[.slice none 0 0]) (t := 29) ?_; intro gb409 hg w3 hbox hb; have n0_ := Aside0.mk (below_step (bw HB.out) hb); have n1_ := Aside0.mk (hbox); have n2_ := Aside0.mk ((gs hg (bw HB.out))); have n3_ := Aside0.mk ((gs hg (bw HB.out))); clear HB; have HB := n0_; have BK409 := n1_; have GW409 := n2_; have GE409 := n3_; clear n0_ n1_ n2_ n3_; clear hb hbox hg) | ((with_reducible refine gate_dst (N := 4) rfl ?_); refine bx (N := 4) (cs := #[.slice none 0 0]) (t := 29) ?_; intro gb410 hg w4 hbox hb; have n0_ := Aside0.mk (blk_below (g := gb409) (o := .cells #[.slice none 0 0] 29 (0, 0)) (kb BK409.out) hb); have n1_ := Aside0.mk (below_step (bw HB.out) hb); have n2_ := Aside0.mk (hbox); have n3_ := Aside0.mk ((gs hg (bw HB.out))); have n4_ := Aside0.mk ((gs hg (bw HB.out))); have n5_ := Aside0.mk ((ga hg BK409.out)); have n6_ := Aside0.mk ((gc hg BK409.out)); clear BK409; clear HB; have BK409 := n0_; have HB := n1_; have BK410 := n2_; have GW410 := n3_; have GE410 := n4_; have NB409_410 := n5_; have NB410_409 := n6_; clear n0_ n1_ n2_ n3_ n4_ n5_ n6_; clear hb hbox hg; have hnb5 := NB410_409.out; have hnc5 := NB409_410.out; have hcz6_0 : w4.cell? ⟨gb410, 0, none⟩ = some (.slice none 0 0) := (blk_cell BK410.out 0).trans rfl; have hfz6_0 := blk_frozen BK410.out 0)))
 (try simp only [Act.put, List.setIfInBounds_toArray, List.set_cons_zero, List.set_cons_succ])
 go_cut [21] (fun v21 wc => ∃ (kq : Nat) (x21_1 : Bool), v21 = .bool x21_1 ∧ Aside0 (spec_ImageRead.j0 kq l0 x21_1 = some (r1, r2)) ∧ Aside0 (kq ≤ k) ∧ Aside0 (wc.heap[gb409]? = some (.cells #[(.slice none 0 0)] 29 (0, 0))) ∧ Aside0 (wc.heap[gb410]? = some (.cells #[(.slice none 0 0)] 29 (0, 0))) ∧ Aside0 (Below w.heap.size w wc))
 case first =>
  have H := HC2.out
  clear HC2
  by_cases c7 : (l0.length : Int) < 6
  ·rw [if_pos c7] at H
   have c7b0 : decide ((l0.length : Int) < 6) = true := decide_eq_true c7
   have c7b1 : decide (l0.length < 6) = true := decide_eq_true (by omega)
   clear c7
   (first | rw [c7b0] | (simp only [i64_w, i32_w]; rw [c7b0]) | skip)
   have H' := Aside0.mk H
   clear H
   go_wp2
   repeat (go_quiet (fail); try go_wp2)
   go_meet
   case rel => exact ⟨_, (true), (by first | rfl | (simp; done) | (simp [*]; done)), H', ⟨by first | omega | exact Nat.le_refl _⟩, ⟨kf BK409.out⟩, ⟨kt BK410.out⟩, ⟨bw HB.out⟩⟩
  ·rw [if_neg c7] at H
   have c7b0 : decide ((l0.length : Int) < 6) = false := decide_eq_false c7
   have c7b1 : decide (l0.length < 6) = false := decide_eq_false (by omega)
   clear c7
   (first | rw [c7b0] | (simp only [i64_w, i32_w]; rw [c7b0]) | skip)
   by_cases c8 : 4 ≤ (l0.length : Int)
   ·rw [if_pos c8] at H
    have c8b0 := eq_true c8
    have c8b1 : decide (4 ≤ (l0.length : Int)) = true := decide_eq_true c8
    clear c8
    have H' := Aside0.mk H
    clear H
    obtain ⟨i09, hi09, _, hsz9, _⟩ := info_parts info5
    obtain ⟨hcut9, hA9, hC9⟩ := print_take_of (P := Try.prog) (Value.int .u8) 0 22 5 .i64 Try.underlying22 hi09 hsz9 A0 c0 l0 4 (by omega) dt HC0.out
    have HR411 := Aside0.mk (Kd.C_of_reads (h1 := fun _ => rfl) (hA9 _ (Kd.reads_of_C HR0.out)))
    have HC411 := Aside0.mk hC9
    clear hA9 hC9 hi09 hsz9
    have hcv10 := Kd.C_string (P := Try.prog) (A := A0) (c := c0) Try.underlying22 Try.underlying5 Try.underlying9 (Kd.C_below HR411.out HB.out)
    (try (have hcvu10 := hcv10; simp only [List.length_take, Int.reduceToNat] at hcvu10))
    (try have hcvs409_10 := Kd.C_string (P := Try.prog) (A := A0) (c := c0) Try.underlying22 Try.underlying5 Try.underlying9 (Kd.C_below HR411.out (below_set (g := gb409) (j := 0) (v := .slice none 0 0) HB.out GE409.out)))
    (try (have hcvt409_10 := hcvs409_10; simp only [List.length_take, Int.reduceToNat] at hcvt409_10))
    (try have hcvs410_10 := Kd.C_string (P := Try.prog) (A := A0) (c := c0) Try.underlying22 Try.underlying5 Try.underlying9 (Kd.C_below HR411.out (below_set (g := gb410) (j := 0) (v := .slice none 0 0) HB.out GE410.out)))
    (try (have hcvt410_10 := hcvs410_10; simp only [List.length_take, Int.reduceToNat] at hcvt410_10))
    go_wp2
    repeat (go_quiet (fail); try go_wp2)
    go_meet
    case rel => exact ⟨_, (((strOfNums (l0.take 4)).toList != ([50, 67, 76, 75] : List UInt8))), (by first | rfl | (simp; done) | (simp [*]; done)), H', ⟨by first | omega | exact Nat.le_refl _⟩, ⟨kf BK409.out⟩, ⟨kt BK410.out⟩, ⟨bw HB.out⟩⟩
   ·rw [if_neg c8] at H
    exact absurd H (by simp)
 case rest =>
  clear HC2; (try clear hcv1); (try clear c2); (try clear p2); (try clear c5); (try clear c7); (try clear c7b0); (try clear c7b1); (try clear c8); (try clear c8b0); (try clear c8b1); (try clear hcv10); (try clear hcz6_0); (try clear hfz6_0)
  obtain ⟨kq, x21_1, rfl, HA, HJ1, BK409, BK410, HB⟩ := hcut
  cases kq with
  | zero => exact absurd HA.out (by simp [spec_ImageRead.j0])
  | succ kj1 =>
   have H := HA.out
   clear HA
   simp only [spec_ImageRead.j0] at H
   by_cases c11 : x21_1 = true
   ·subst c11
    have H1 : (some (([] : List (List Int)), 1)) = some (r1, r2) := by rw [if_pos rfl] at H; exact H
    clear H
    have H := H1
    clear H1
    simp only [Option.some.injEq, Prod.mk.injEq] at H
    obtain ⟨rfl, rfl⟩ := H
    have hnb12 := NB410_409.out
    have hnc12 := NB409_410.out
    have hcz13_0 : wc.cell? ⟨gb410, 0, none⟩ = some (.slice none 0 0) := (blk_cell BK410.out 0).trans rfl
    have hfz13_0 := blk_frozen BK410.out 0
    have hcz14_0 : wc.cell? ⟨gb409, 0, none⟩ = some (.slice none 0 0) := (blk_cell BK409.out 0).trans rfl
    have hfz14_0 := blk_frozen BK409.out 0
    go_wp2
    repeat (go_quiet (fail); try go_wp2)
    refine bodyPost_ret (results_ct rfl _ _ gb409 29 #[.slice none 0 0] (0, 0) _ rfl (kt BK409.out) Try.underlying29 rfl (by kernel_rfl)) rfl ?_
    exact ⟨_, rt, by first | exact Kd.S_nil _ _ _ _ _ | exact Kd.N_nil _ _ _ _ _ | exact Kd.V_nil _ _ _ _ _ | exact Kd.Q_nil _ _ _ _ _ | exact Kd.R_nil _ _ _ _ _, bw HB.out⟩
   ·replace c11 := Bool.eq_false_iff.mpr c11
    subst c11
    have H1 : (if 4 < (l0.length : Int) then ((spec_l1In.f (wrap64 (rd l0 4)) 1 8).bind fun t413 => (if t413 = true then (if (wrap64 ((l0.length : Int) - 6)) < (wrap64 ((wrap64 (rd l0 4)) * 256)) then (some (([] : List (List Int)), 3)) else (if (wrap64 ((l0.length : Int) - 6)) > (wrap64 ((wrap64 (rd l0 4)) * 256)) then (some (([] : List (List Int)), 4)) else (spec_ImageRead.l0 kj1 l0 (wrap64 (rd l0 4)) 0 0 ([] : List (List Int))))) else (some (([] : List (List Int)), 2)))) else (none)) = some (r1, r2) := by rw [if_neg (show ¬ (false = true) by decide)] at H; exact H
    clear H
    have H := H1
    clear H1
    by_cases c15 : 4 < (l0.length : Int)
    ·rw [if_pos c15] at H
     have c15b0 : decide (4 < (l0.length : Int)) = true := decide_eq_true c15
     have c15b1 : decide (4 < l0.length) = true := decide_eq_true (by omega)
     clear c15
     replace H := Option.bind_eq_some_iff.mp H
     obtain ⟨t413, A160, H⟩ := H
     replace H : (if t413 = true then (if (wrap64 ((l0.length : Int) - 6)) < (wrap64 ((wrap64 (rd l0 4)) * 256)) then (some (([] : List (List Int)), 3)) else (if (wrap64 ((l0.length : Int) - 6)) > (wrap64 ((wrap64 (rd l0 4)) * 256)) then (some (([] : List (List Int)), 4)) else (spec_ImageRead.l0 kj1 l0 (wrap64 (rd l0 4)) 0 0 ([] : List (List Int))))) else (some (([] : List (List Int)), 2))) = some (r1, r2) := H
     have A16 := Aside0.mk A160
     clear A160
     by_cases c17 : t413 = true
     ·subst c17
      have H1 : (if (wrap64 ((l0.length : Int) - 6)) < (wrap64 ((wrap64 (rd l0 4)) * 256)) then (some (([] : List (List Int)), 3)) else (if (wrap64 ((l0.length : Int) - 6)) > (wrap64 ((wrap64 (rd l0 4)) * 256)) then (some (([] : List (List Int)), 4)) else (spec_ImageRead.l0 kj1 l0 (wrap64 (rd l0 4)) 0 0 ([] : List (List Int))))) = some (r1, r2) := by rw [if_pos rfl] at H; exact H
      clear H
      have H := H1
      clear H1
      by_cases c18 : (wrap64 ((l0.length : Int) - 6)) < (wrap64 ((wrap64 (rd l0 4)) * 256))
      ·rw [if_pos c18] at H
       have c18b0 : decide ((wrap64 ((l0.length : Int) - 6)) < (wrap64 ((wrap64 (rd l0 4)) * 256))) = true := decide_eq_true c18
       clear c18
       simp only [Option.some.injEq, Prod.mk.injEq] at H
       obtain ⟨rfl, rfl⟩ := H
       have p412 : 0 ≤ (4 : Int) := (by omega)
       have q412 : 4 < (l0.length : Int) := dt
       obtain ⟨ad412, e412, hx412_0⟩ := Kd.at_int HR0.out 4 p412 q412
       cases e412
       (try simp only [show (4 : Int).toNat = 4 from rfl, Nat.reduceMul, Nat.reduceEqDiff, Go.Addr.add, ↓reduceIte] at hx412_0)
       have qi412 : (4 < l0.length) = True := eq_true (by omega)
       (try rw [show ((4 : Int)).toNat = 4 from rfl] at hx412_0)
       replace hx412_0 := (HB.out.cell (World.block_lt_of_cell? w _ hx412_0)).trans hx412_0
       replace p412 := eq_true p412
       replace q412 := eq_true q412
       go_wp2_with (first | (go_at_call 68; (with_reducible refine (spec_l1In.calls (wrap64 (rd l0 4)) 1 8 true _ A16.out).mono ?_); rintro e w' ⟨rfl, ⟨nd, rfl⟩⟩; (try first | exact ⟨rfl, _, World.drewN_drewN _ _ _⟩ | exact ⟨rfl, _, Eq.trans (World.drewN_drewN _ _ _) (congrArg (World.drewN _) (Nat.add_assoc _ _ _))⟩); have hnb19 := NB410_409.out; have hnc19 := NB409_410.out; have hcz20_0 : wc.cell? ⟨gb410, 0, none⟩ = some (.slice none 0 0) := (blk_cell BK410.out 0).trans rfl; have hfz20_0 := blk_frozen BK410.out 0; have hcz21_0 : wc.cell? ⟨gb409, 0, none⟩ = some (.slice none 0 0) := (blk_cell BK409.out 0).trans rfl; have hfz21_0 := blk_frozen BK409.out 0))
       repeat (go_quiet (first | (go_at_call 68; (with_reducible refine (spec_l1In.calls (wrap64 (rd l0 4)) 1 8 true _ A16.out).mono ?_); rintro e w' ⟨rfl, ⟨nd, rfl⟩⟩; (try first | exact ⟨rfl, _, World.drewN_drewN _ _ _⟩ | exact ⟨rfl, _, Eq.trans (World.drewN_drewN _ _ _) (congrArg (World.drewN _) (Nat.add_assoc _ _ _))⟩); have hnb19 := NB410_409.out; have hnc19 := NB409_410.out; have hcz20_0 : wc.cell? ⟨gb410, 0, none⟩ = some (.slice none 0 0) := (blk_cell BK410.out 0).trans rfl; have hfz20_0 := blk_frozen BK410.out 0; have hcz21_0 : wc.cell? ⟨gb409, 0, none⟩ = some (.slice none 0 0) := (blk_cell BK409.out 0).trans rfl; have hfz21_0 := blk_frozen BK409.out 0)); try go_wp2_with (first | (go_at_call 68; (with_reducible refine (spec_l1In.calls (wrap64 (rd l0 4)) 1 8 true _ A16.out).mono ?_); rintro e w' ⟨rfl, ⟨nd, rfl⟩⟩; (try first | exact ⟨rfl, _, World.drewN_drewN _ _ _⟩ | exact ⟨rfl, _, Eq.trans (World.drewN_drewN _ _ _) (congrArg (World.drewN _) (Nat.add_assoc _ _ _))⟩); have hnb19 := NB410_409.out; have hnc19 := NB409_410.out; have hcz20_0 : wc.cell? ⟨gb410, 0, none⟩ = some (.slice none 0 0) := (blk_cell BK410.out 0).trans rfl; have hfz20_0 := blk_frozen BK410.out 0; have hcz21_0 : wc.cell? ⟨gb409, 0, none⟩ = some (.slice none 0 0) := (blk_cell BK409.out 0).trans rfl; have hfz21_0 := blk_frozen BK409.out 0)))
       refine bodyPost_ret (results_ct rfl _ _ gb409 29 #[.slice none 0 0] (0, 0) _ rfl (kt BK409.out) Try.underlying29 rfl (by kernel_rfl)) rfl ?_
       exact ⟨_, rt, by first | exact Kd.S_nil _ _ _ _ _ | exact Kd.N_nil _ _ _ _ _ | exact Kd.V_nil _ _ _ _ _ | exact Kd.Q_nil _ _ _ _ _ | exact Kd.R_nil _ _ _ _ _, bw HB.out⟩
      ·rw [if_neg c18] at H
       have c18b0 : decide ((wrap64 ((l0.length : Int) - 6)) < (wrap64 ((wrap64 (rd l0 4)) * 256))) = false := decide_eq_false c18
       clear c18
       by_cases c22 : (wrap64 ((l0.length : Int) - 6)) > (wrap64 ((wrap64 (rd l0 4)) * 256))
       ·rw [if_pos c22] at H
        have c22b0 : decide ((wrap64 ((wrap64 (rd l0 4)) * 256)) < (wrap64 ((l0.length : Int) - 6))) = true := decide_eq_true c22
        clear c22
        simp only [Option.some.injEq, Prod.mk.injEq] at H
        obtain ⟨rfl, rfl⟩ := H
        have p412 : 0 ≤ (4 : Int) := (by omega)
        have q412 : 4 < (l0.length : Int) := dt
        obtain ⟨ad412, e412, hx412_0⟩ := Kd.at_int HR0.out 4 p412 q412
        cases e412
        (try simp only [show (4 : Int).toNat = 4 from rfl, Nat.reduceMul, Nat.reduceEqDiff, Go.Addr.add, ↓reduceIte] at hx412_0)
        have qi412 : (4 < l0.length) = True := eq_true (by omega)
        (try rw [show ((4 : Int)).toNat = 4 from rfl] at hx412_0)
        replace hx412_0 := (HB.out.cell (World.block_lt_of_cell? w _ hx412_0)).trans hx412_0
        replace p412 := eq_true p412
        replace q412 := eq_true q412
        go_wp2_with (first | (go_at_call 68; (with_reducible refine (spec_l1In.calls (wrap64 (rd l0 4)) 1 8 true _ A16.out).mono ?_); rintro e w' ⟨rfl, ⟨nd, rfl⟩⟩; (try first | exact ⟨rfl, _, World.drewN_drewN _ _ _⟩ | exact ⟨rfl, _, Eq.trans (World.drewN_drewN _ _ _) (congrArg (World.drewN _) (Nat.add_assoc _ _ _))⟩); have hnb23 := NB410_409.out; have hnc23 := NB409_410.out; have hcz24_0 : wc.cell? ⟨gb410, 0, none⟩ = some (.slice none 0 0) := (blk_cell BK410.out 0).trans rfl; have hfz24_0 := blk_frozen BK410.out 0; have hcz25_0 : wc.cell? ⟨gb409, 0, none⟩ = some (.slice none 0 0) := (blk_cell BK409.out 0).trans rfl; have hfz25_0 := blk_frozen BK409.out 0))
        repeat (go_quiet (first | (go_at_call 68; (with_reducible refine (spec_l1In.calls (wrap64 (rd l0 4)) 1 8 true _ A16.out).mono ?_); rintro e w' ⟨rfl, ⟨nd, rfl⟩⟩; (try first | exact ⟨rfl, _, World.drewN_drewN _ _ _⟩ | exact ⟨rfl, _, Eq.trans (World.drewN_drewN _ _ _) (congrArg (World.drewN _) (Nat.add_assoc _ _ _))⟩); have hnb23 := NB410_409.out; have hnc23 := NB409_410.out; have hcz24_0 : wc.cell? ⟨gb410, 0, none⟩ = some (.slice none 0 0) := (blk_cell BK410.out 0).trans rfl; have hfz24_0 := blk_frozen BK410.out 0; have hcz25_0 : wc.cell? ⟨gb409, 0, none⟩ = some (.slice none 0 0) := (blk_cell BK409.out 0).trans rfl; have hfz25_0 := blk_frozen BK409.out 0)); try go_wp2_with (first | (go_at_call 68; (with_reducible refine (spec_l1In.calls (wrap64 (rd l0 4)) 1 8 true _ A16.out).mono ?_); rintro e w' ⟨rfl, ⟨nd, rfl⟩⟩; (try first | exact ⟨rfl, _, World.drewN_drewN _ _ _⟩ | exact ⟨rfl, _, Eq.trans (World.drewN_drewN _ _ _) (congrArg (World.drewN _) (Nat.add_assoc _ _ _))⟩); have hnb23 := NB410_409.out; have hnc23 := NB409_410.out; have hcz24_0 : wc.cell? ⟨gb410, 0, none⟩ = some (.slice none 0 0) := (blk_cell BK410.out 0).trans rfl; have hfz24_0 := blk_frozen BK410.out 0; have hcz25_0 : wc.cell? ⟨gb409, 0, none⟩ = some (.slice none 0 0) := (blk_cell BK409.out 0).trans rfl; have hfz25_0 := blk_frozen BK409.out 0)))
        refine bodyPost_ret (results_ct rfl _ _ gb409 29 #[.slice none 0 0] (0, 0) _ rfl (kt BK409.out) Try.underlying29 rfl (by kernel_rfl)) rfl ?_
        exact ⟨_, rt, by first | exact Kd.S_nil _ _ _ _ _ | exact Kd.N_nil _ _ _ _ _ | exact Kd.V_nil _ _ _ _ _ | exact Kd.Q_nil _ _ _ _ _ | exact Kd.R_nil _ _ _ _ _, bw HB.out⟩
       ·rw [if_neg c22] at H
        have c22b0 : decide ((wrap64 ((wrap64 (rd l0 4)) * 256)) < (wrap64 ((l0.length : Int) - 6))) = false := decide_eq_false c22
        clear c22
        have H' := Aside0.mk H
        clear H
        have p412 : 0 ≤ (4 : Int) := (by omega)
        have q412 : 4 < (l0.length : Int) := dt
        obtain ⟨ad412, e412, hx412_0⟩ := Kd.at_int HR0.out 4 p412 q412
        cases e412
        (try simp only [show (4 : Int).toNat = 4 from rfl, Nat.reduceMul, Nat.reduceEqDiff, Go.Addr.add, ↓reduceIte] at hx412_0)
        have qi412 : (4 < l0.length) = True := eq_true (by omega)
        (try rw [show ((4 : Int)).toNat = 4 from rfl] at hx412_0)
        replace hx412_0 := (HB.out.cell (World.block_lt_of_cell? w _ hx412_0)).trans hx412_0
        replace p412 := eq_true p412
        replace q412 := eq_true q412
        go_wp2_with (first | (go_at_call 68; (with_reducible refine (spec_l1In.calls (wrap64 (rd l0 4)) 1 8 true _ A16.out).mono ?_); rintro e w' ⟨rfl, ⟨nd, rfl⟩⟩; (try first | exact ⟨rfl, _, World.drewN_drewN _ _ _⟩ | exact ⟨rfl, _, Eq.trans (World.drewN_drewN _ _ _) (congrArg (World.drewN _) (Nat.add_assoc _ _ _))⟩)) | ((with_reducible refine gate_dst (N := 6) rfl ?_); refine bx (N := 6) (cs := #[.slice none 0 0]) (t := 29) ?_; intro gb414 hg w26 hbox hb; have n0_ := Aside0.mk (blk_below (g := gb409) (o := .cells #[.slice none 0 0] 29 (0, 0)) (kb BK409.out) hb); have n1_ := Aside0.mk (blk_below (g := gb410) (o := .cells #[.slice none 0 0] 29 (0, 0)) (kb BK410.out) hb); have n2_ := Aside0.mk (below_step (bw HB.out) hb); have n3_ := Aside0.mk (hbox); have n4_ := Aside0.mk ((gs hg (bw HB.out))); have n5_ := Aside0.mk ((gs hg (bw HB.out))); have n6_ := Aside0.mk ((ga hg BK409.out)); have n7_ := Aside0.mk ((gc hg BK409.out)); have n8_ := Aside0.mk ((ga hg BK410.out)); have n9_ := Aside0.mk ((gc hg BK410.out)); clear BK409; clear BK410; clear HB; have BK409 := n0_; have BK410 := n1_; have HB := n2_; have BK414 := n3_; have GW414 := n4_; have GE414 := n5_; have NB409_414 := n6_; have NB414_409 := n7_; have NB410_414 := n8_; have NB414_410 := n9_; clear n0_ n1_ n2_ n3_ n4_ n5_ n6_ n7_ n8_ n9_; clear hb hbox hg; have hnb27 := NB414_409.out; have hnc27 := NB409_414.out; have hnb28 := NB414_410.out; have hnc28 := NB410_414.out; have hcz29_0 : w26.cell? ⟨gb414, 0, none⟩ = some (.slice none 0 0) := (blk_cell BK414.out 0).trans rfl; have hfz29_0 := blk_frozen BK414.out 0))
        repeat (go_quiet (first | (go_at_call 68; (with_reducible refine (spec_l1In.calls (wrap64 (rd l0 4)) 1 8 true _ A16.out).mono ?_); rintro e w' ⟨rfl, ⟨nd, rfl⟩⟩; (try first | exact ⟨rfl, _, World.drewN_drewN _ _ _⟩ | exact ⟨rfl, _, Eq.trans (World.drewN_drewN _ _ _) (congrArg (World.drewN _) (Nat.add_assoc _ _ _))⟩)) | ((with_reducible refine gate_dst (N := 6) rfl ?_); refine bx (N := 6) (cs := #[.slice none 0 0]) (t := 29) ?_; intro gb414 hg w26 hbox hb; have n0_ := Aside0.mk (blk_below (g := gb409) (o := .cells #[.slice none 0 0] 29 (0, 0)) (kb BK409.out) hb); have n1_ := Aside0.mk (blk_below (g := gb410) (o := .cells #[.slice none 0 0] 29 (0, 0)) (kb BK410.out) hb); have n2_ := Aside0.mk (below_step (bw HB.out) hb); have n3_ := Aside0.mk (hbox); have n4_ := Aside0.mk ((gs hg (bw HB.out))); have n5_ := Aside0.mk ((gs hg (bw HB.out))); have n6_ := Aside0.mk ((ga hg BK409.out)); have n7_ := Aside0.mk ((gc hg BK409.out)); have n8_ := Aside0.mk ((ga hg BK410.out)); have n9_ := Aside0.mk ((gc hg BK410.out)); clear BK409; clear BK410; clear HB; have BK409 := n0_; have BK410 := n1_; have HB := n2_; have BK414 := n3_; have GW414 := n4_; have GE414 := n5_; have NB409_414 := n6_; have NB414_409 := n7_; have NB410_414 := n8_; have NB414_410 := n9_; clear n0_ n1_ n2_ n3_ n4_ n5_ n6_ n7_ n8_ n9_; clear hb hbox hg; have hnb27 := NB414_409.out; have hnc27 := NB409_414.out; have hnb28 := NB414_410.out; have hnc28 := NB410_414.out; have hcz29_0 : w26.cell? ⟨gb414, 0, none⟩ = some (.slice none 0 0) := (blk_cell BK414.out 0).trans rfl; have hfz29_0 := blk_frozen BK414.out 0)); try go_wp2_with (first | (go_at_call 68; (with_reducible refine (spec_l1In.calls (wrap64 (rd l0 4)) 1 8 true _ A16.out).mono ?_); rintro e w' ⟨rfl, ⟨nd, rfl⟩⟩; (try first | exact ⟨rfl, _, World.drewN_drewN _ _ _⟩ | exact ⟨rfl, _, Eq.trans (World.drewN_drewN _ _ _) (congrArg (World.drewN _) (Nat.add_assoc _ _ _))⟩)) | ((with_reducible refine gate_dst (N := 6) rfl ?_); refine bx (N := 6) (cs := #[.slice none 0 0]) (t := 29) ?_; intro gb414 hg w26 hbox hb; have n0_ := Aside0.mk (blk_below (g := gb409) (o := .cells #[.slice none 0 0] 29 (0, 0)) (kb BK409.out) hb); have n1_ := Aside0.mk (blk_below (g := gb410) (o := .cells #[.slice none 0 0] 29 (0, 0)) (kb BK410.out) hb); have n2_ := Aside0.mk (below_step (bw HB.out) hb); have n3_ := Aside0.mk (hbox); have n4_ := Aside0.mk ((gs hg (bw HB.out))); have n5_ := Aside0.mk ((gs hg (bw HB.out))); have n6_ := Aside0.mk ((ga hg BK409.out)); have n7_ := Aside0.mk ((gc hg BK409.out)); have n8_ := Aside0.mk ((ga hg BK410.out)); have n9_ := Aside0.mk ((gc hg BK410.out)); clear BK409; clear BK410; clear HB; have BK409 := n0_; have BK410 := n1_; have HB := n2_; have BK414 := n3_; have GW414 := n4_; have GE414 := n5_; have NB409_414 := n6_; have NB414_409 := n7_; have NB410_414 := n8_; have NB414_410 := n9_; clear n0_ n1_ n2_ n3_ n4_ n5_ n6_ n7_ n8_ n9_; clear hb hbox hg; have hnb27 := NB414_409.out; have hnc27 := NB409_414.out; have hnb28 := NB414_410.out; have hnc28 := NB410_414.out; have hcz29_0 : w26.cell? ⟨gb414, 0, none⟩ = some (.slice none 0 0) := (blk_cell BK414.out 0).trans rfl; have hfz29_0 := blk_frozen BK414.out 0)))
        go_loopg [7, 8] kj1 (fun kq v7 v8 w' => ∃ (x7_2 : Int) (x8_2 : Int) (x415000_2 : List (List Int)) (u415000 : Value), v7 = .int .i64 x7_2 ∧ v8 = .int .i64 x8_2 ∧ Aside0 (spec_ImageRead.l0 kq l0 (wrap64 (rd l0 4)) x7_2 x8_2 x415000_2 = some (r1, r2)) ∧ Aside0 (kq ≤ kj1) ∧ Aside0 (Kd.S (Kd.slice 3 (Kd.int .i64)) 30 w' w.heap.size (fun _ => True) u415000 x415000_2) ∧ Aside0 (w'.heap[gb409]? = some (.cells #[(.slice none 0 0)] 29 (0, 0))) ∧ Aside0 (w'.heap[gb410]? = some (.cells #[(.slice none 0 0)] 29 (0, 0))) ∧ Aside0 (w'.heap[gb414]? = some (.cells #[u415000] 29 (0, 0))) ∧ Aside0 (Below w.heap.size w w'))
        case atStart => exact ⟨(0), (0), (([] : List (List Int))), (.slice none 0 0), (by first | rfl | (simp; done) | (simp [*]; done)), (by first | rfl | (simp; done) | (simp [*]; done)), H', ⟨Nat.le_refl _⟩, ⟨by first | exact Kd.S_nil _ _ _ _ _ | exact Kd.N_nil _ _ _ _ _ | exact Kd.V_nil _ _ _ _ _ | exact Kd.Q_nil _ _ _ _ _ | exact Kd.R_nil _ _ _ _ _⟩, ⟨kf BK409.out⟩, ⟨kf BK410.out⟩, ⟨kt BK414.out⟩, ⟨bw HB.out⟩⟩
        case round =>
         clear H'
         (try clear c1); (try clear hcv1); (try clear c2); (try clear p2); (try clear p4); (try clear q4); (try clear hx4); (try clear qi4); (try clear c5); (try clear p6); (try clear c7); (try clear c7b0); (try clear c7b1); (try clear c8); (try clear c8b0); (try clear c8b1); (try clear hcv10); (try clear c11); (try clear c12); (try clear c15); (try clear c15b0); (try clear c15b1); (try clear c17); (try clear c18); (try clear c18b0); (try clear c19); (try clear c22); (try clear c22b0); (try clear c23); (try clear c24); (try clear c27); (try clear c28); (try clear hcz13_0); (try clear hcz14_0); (try clear hcz20_0); (try clear hcz21_0); (try clear hcz24_0); (try clear hcz25_0); (try clear hcz29_0); (try clear hcz6_0); (try clear hfz13_0); (try clear hfz14_0); (try clear hfz20_0); (try clear hfz21_0); (try clear hfz24_0); (try clear hfz25_0); (try clear hfz29_0); (try clear hfz6_0); (try clear hx412_0); (try clear p2); (try clear p412); (try clear q412)
         obtain ⟨x7_2, x8_2, x415000_2, u415000, rfl, rfl, HA, HK2, HO_415000, BK409, BK410, BK414, HB⟩ := hrel
         cases gk with
         | zero => exact absurd HA.out (by simp [spec_ImageRead.l0])
         | succ k2 =>
          have H := HA.out
          clear HA
          simp only [spec_ImageRead.l0] at H
          by_cases c30 : x8_2 < (wrap64 (rd l0 4))
          ·rw [if_pos c30] at H
           have c30b0 : decide (x8_2 < (wrap64 (rd l0 4))) = true := decide_eq_true c30
           clear c30
           obtain ⟨y417, hy417⟩ : ∃ y_ : List Int, y_ = (([] : List Int)) := ⟨_, rfl⟩
           replace H : (spec_ImageRead.l1 k2 l0 (wrap64 (rd l0 4)) x7_2 x8_2 y417 0 x415000_2) = some (r1, r2) := by first | (rw [hy417]; with_reducible exact H) | (have H2_ := (Option.bind_some _ _).symm.trans H; rw [hy417]; with_reducible exact H2_) | (have H2_ := (Option.bind_some _ _).symm.trans H; with_reducible exact H2_) | with_reducible exact H | (rw [hy417]; exact H) | exact H
           have Ny417 := Aside0.mk hy417
           clear hy417
           have H' := Aside0.mk H
           clear H
           go_wp2_with (first | ((with_reducible refine gate_dst (N := 54) rfl ?_); refine Kd.R_lit (Kd.int .i64) _ 3 ?hg (N := 54) ?hd (xs := ([] : List Int)) (inner := []) (ok := fun _ => True) (okp := fun _ => True) ?hr ?hp (fun _ hk => hk) trivial (Below.refl _ _) (Nat.le_refl _) (by simp) ?_; (case hd => rfl); (case hg => rfl); (case hr => first | (go_simp; done) | (go_simp; rfl)); (case hp => exact (Reps.none _ _)); intro v418 w31 ho32 hb hg_ hnew_; clear hg_ hnew_; (first | rw [← Ny417.out] at ho32 | (simp only [Int.reduceToNat] at ho32; rw [← Ny417.out] at ho32)); have n0_ := Aside0.mk (Kd.S_elder' (ks HO_415000.out) (Kd.R_base ho32) hb); have n1_ := Aside0.mk (Kd.R_lower ho32 (below_size (bw HB.out))); have n2_ := Aside0.mk (blk_below (g := gb409) (o := .cells #[.slice none 0 0] 29 (0, 0)) (kb BK409.out) hb); have n3_ := Aside0.mk (blk_below (g := gb410) (o := .cells #[.slice none 0 0] 29 (0, 0)) (kb BK410.out) hb); have n4_ := Aside0.mk (blk_below (g := gb414) (o := .cells #[u415000] 29 (0, 0)) (kb BK414.out) hb); have n5_ := Aside0.mk (below_step (bw HB.out) hb); clear HO_415000; clear BK409; clear BK410; clear BK414; clear HB; have HO_415000 := n0_; have HO419 := n1_; have BK409 := n2_; have BK410 := n3_; have BK414 := n4_; have HB := n5_; clear n0_ n1_ n2_ n3_ n4_ n5_; clear hb ho32))
           repeat (go_quiet (first | ((with_reducible refine gate_dst (N := 54) rfl ?_); refine Kd.R_lit (Kd.int .i64) _ 3 ?hg (N := 54) ?hd (xs := ([] : List Int)) (inner := []) (ok := fun _ => True) (okp := fun _ => True) ?hr ?hp (fun _ hk => hk) trivial (Below.refl _ _) (Nat.le_refl _) (by simp) ?_; (case hd => rfl); (case hg => rfl); (case hr => first | (go_simp; done) | (go_simp; rfl)); (case hp => exact (Reps.none _ _)); intro v418 w31 ho32 hb hg_ hnew_; clear hg_ hnew_; (first | rw [← Ny417.out] at ho32 | (simp only [Int.reduceToNat] at ho32; rw [← Ny417.out] at ho32)); have n0_ := Aside0.mk (Kd.S_elder' (ks HO_415000.out) (Kd.R_base ho32) hb); have n1_ := Aside0.mk (Kd.R_lower ho32 (below_size (bw HB.out))); have n2_ := Aside0.mk (blk_below (g := gb409) (o := .cells #[.slice none 0 0] 29 (0, 0)) (kb BK409.out) hb); have n3_ := Aside0.mk (blk_below (g := gb410) (o := .cells #[.slice none 0 0] 29 (0, 0)) (kb BK410.out) hb); have n4_ := Aside0.mk (blk_below (g := gb414) (o := .cells #[u415000] 29 (0, 0)) (kb BK414.out) hb); have n5_ := Aside0.mk (below_step (bw HB.out) hb); clear HO_415000; clear BK409; clear BK410; clear BK414; clear HB; have HO_415000 := n0_; have HO419 := n1_; have BK409 := n2_; have BK410 := n3_; have BK414 := n4_; have HB := n5_; clear n0_ n1_ n2_ n3_ n4_ n5_; clear hb ho32)); try go_wp2_with (first | ((with_reducible refine gate_dst (N := 54) rfl ?_); refine Kd.R_lit (Kd.int .i64) _ 3 ?hg (N := 54) ?hd (xs := ([] : List Int)) (inner := []) (ok := fun _ => True) (okp := fun _ => True) ?hr ?hp (fun _ hk => hk) trivial (Below.refl _ _) (Nat.le_refl _) (by simp) ?_; (case hd => rfl); (case hg => rfl); (case hr => first | (go_simp; done) | (go_simp; rfl)); (case hp => exact (Reps.none _ _)); intro v418 w31 ho32 hb hg_ hnew_; clear hg_ hnew_; (first | rw [← Ny417.out] at ho32 | (simp only [Int.reduceToNat] at ho32; rw [← Ny417.out] at ho32)); have n0_ := Aside0.mk (Kd.S_elder' (ks HO_415000.out) (Kd.R_base ho32) hb); have n1_ := Aside0.mk (Kd.R_lower ho32 (below_size (bw HB.out))); have n2_ := Aside0.mk (blk_below (g := gb409) (o := .cells #[.slice none 0 0] 29 (0, 0)) (kb BK409.out) hb); have n3_ := Aside0.mk (blk_below (g := gb410) (o := .cells #[.slice none 0 0] 29 (0, 0)) (kb BK410.out) hb); have n4_ := Aside0.mk (blk_below (g := gb414) (o := .cells #[u415000] 29 (0, 0)) (kb BK414.out) hb); have n5_ := Aside0.mk (below_step (bw HB.out) hb); clear HO_415000; clear BK409; clear BK410; clear BK414; clear HB; have HO_415000 := n0_; have HO419 := n1_; have BK409 := n2_; have BK410 := n3_; have BK414 := n4_; have HB := n5_; clear n0_ n1_ n2_ n3_ n4_ n5_; clear hb ho32)))
           go_loopg [7, 9, 10] k2 (fun kq v7 v9 v10 w' => ∃ (x7_3 : Int) (x9_3 : List Int) (x10_3 : Int), v7 = .int .i64 x7_3 ∧ v10 = .int .i64 x10_3 ∧ Aside0 (spec_ImageRead.l1 kq l0 (wrap64 (rd l0 4)) x7_3 x8_2 x9_3 x10_3 x415000_2 = some (r1, r2)) ∧ Aside0 (kq ≤ k2) ∧ Aside0 (Kd.R (Kd.int .i64) 3 w' w.heap.size (fun _ => True) v9 x9_3) ∧ Aside0 (Kd.S (Kd.slice 3 (Kd.int .i64)) 30 w' w.heap.size (fun k_ => some k_ ≠ (v9 : Value).ownBlock) u415000 x415000_2) ∧ Aside0 (w'.heap[gb409]? = some (.cells #[(.slice none 0 0)] 29 (0, 0))) ∧ Aside0 (w'.heap[gb410]? = some (.cells #[(.slice none 0 0)] 29 (0, 0))) ∧ Aside0 (w'.heap[gb414]? = some (.cells #[u415000] 29 (0, 0))) ∧ Aside0 (Below w.heap.size w w'))
           case atStart => exact ⟨(x7_2), (y417), (0), (by first | rfl | (simp; done) | (simp [*]; done)), (by first | rfl | (simp; done) | (simp [*]; done)), H', ⟨Nat.le_refl _⟩, ⟨kr HO419.out⟩, ⟨ks (Kd.S_mono HO_415000.out (fun _ hk => hk.2))⟩, ⟨kb BK409.out⟩, ⟨kb BK410.out⟩, ⟨kb BK414.out⟩, ⟨bw HB.out⟩⟩
           case round =>
            clear H'
            (try clear c1); (try clear hcv1); (try clear c2); (try clear p2); (try clear c3); (try clear p4); (try clear q4); (try clear hx4); (try clear qi4); (try clear c5); (try clear p6); (try clear c7); (try clear c7b0); (try clear c7b1); (try clear c8); (try clear c8b0); (try clear c8b1); (try clear hcv10); (try clear c11); (try clear c12); (try clear c15); (try clear c15b0); (try clear c15b1); (try clear c17); (try clear c18); (try clear c18b0); (try clear c19); (try clear c22); (try clear c22b0); (try clear c23); (try clear c24); (try clear c27); (try clear c28); (try clear c30); (try clear c30b0); (try clear hcz13_0); (try clear hcz14_0); (try clear hcz20_0); (try clear hcz21_0); (try clear hcz24_0); (try clear hcz25_0); (try clear hcz29_0); (try clear hcz6_0); (try clear hfz13_0); (try clear hfz14_0); (try clear hfz20_0); (try clear hfz21_0); (try clear hfz24_0); (try clear hfz25_0); (try clear hfz29_0); (try clear hfz6_0); (try clear hx412_0); (try clear p2); (try clear p4); (try clear p412); (try clear p6); (try clear q4); (try clear q412)
            obtain ⟨x7_3, x9_3, x10_3, rfl, rfl, HA, HK3, HO_9, HO_415000, BK409, BK410, BK414, HB⟩ := hrel
            cases gk with
            | zero => exact absurd HA.out (by simp [spec_ImageRead.l1])
            | succ k3 =>
             have H := HA.out
             clear HA
             simp only [spec_ImageRead.l1] at H
             by_cases c33 : x10_3 < 256
             ·rw [if_pos c33] at H
              have c33b0 : decide (x10_3 < 256) = true := decide_eq_true c33
              clear c33
              obtain ⟨ji34, hji34⟩ : ∃ j_ : Int, (wrap64 ((wrap64 (6 + (wrap64 (x8_2 * 256)))) + x10_3)) = j_ := ⟨_, rfl⟩
              replace H : (if 0 ≤ (ji34) then (if (ji34) < (l0.length : Int) then (if x9_3.length < 17592186044416 then (spec_ImageRead.l1 k3 l0 (wrap64 (rd l0 4)) (wrap64 (x7_3 + (wrap64 (rd l0 (ji34))))) x8_2 (x9_3 ++ [wrap64 (rd l0 (ji34))]) (wrap64 (x10_3 + 1)) x415000_2) else (none)) else (none)) else (none)) = some (r1, r2) := by first | (rw [hji34] at H; exact H) | (simp only [hji34] at H ⊢; exact H)
              have hji34w : (IntKind.i64.wrap ((wrap64 (6 + (wrap64 (x8_2 * 256)))) + x10_3)) = ji34 := (i64_w _).trans hji34
              by_cases c35 : 0 ≤ (ji34)
              ·rw [if_pos c35] at H
               have c35b0 : decide (0 ≤ (ji34)) = true := decide_eq_true c35
               clear c35
               by_cases c36 : (ji34) < (l0.length : Int)
               ·rw [if_pos c36] at H
                have c36b0 : decide ((ji34) < (l0.length : Int)) = true := decide_eq_true c36
                clear c36
                by_cases c37 : x9_3.length < 17592186044416
                ·rw [if_pos c37] at H
                 have LMc37 := Aside0.mk c37
                 clear c37
                 obtain ⟨y421, hy421⟩ : ∃ y_ : List Int, y_ = (x9_3 ++ [wrap64 (rd l0 (ji34))]) := ⟨_, rfl⟩
                 replace H : (spec_ImageRead.l1 k3 l0 (wrap64 (rd l0 4)) (wrap64 (x7_3 + (wrap64 (rd l0 (ji34))))) x8_2 y421 (wrap64 (x10_3 + 1)) x415000_2) = some (r1, r2) := by first | (rw [hy421]; with_reducible exact H) | (have H2_ := (Option.bind_some _ _).symm.trans H; rw [hy421]; with_reducible exact H2_) | (have H2_ := (Option.bind_some _ _).symm.trans H; with_reducible exact H2_) | with_reducible exact H | (rw [hy421]; exact H) | exact H
                 have Ny421 := Aside0.mk hy421
                 clear hy421
                 have H' := Aside0.mk H
                 clear H
                 have p420 : 0 ≤ ((ji34) : Int) := dt
                 have q420 : (ji34) < (l0.length : Int) := dt
                 obtain ⟨ad420, e420, hx420_0⟩ := Kd.at_int HR0.out (ji34) p420 q420
                 obtain rfl : ad412 = ad420 := (by injection e420)
                 replace hx420_0 := (HB.out.cell (World.block_lt_of_cell? w _ hx420_0)).trans hx420_0
                 replace p420 := eq_true p420
                 replace q420 := eq_true q420
                 go_wp2_with (first | ((with_reducible refine gate_builtin (b := .append) (xs := #[.tmp 68, .tmp 70]) rfl ?_); at_builtin; refine Kd.R_append (Kd.int .i64) (w0 := w) w.heap.size rfl (.tmp 68) (.tmp 70) 30 3 (.int .i64 0) 8 rfl Try.underlying30 info3 rfl (by decide) (by omega) u9 x9_3 (wrap64 (rd l0 (ji34))) [.int .i64 (wrap64 (rd l0 (ji34)))] (fun _ => True) (fun _ => False) rfl rfl ?aP (fun _ hk => hk.elim) ?aF ?aO ?aB ?aS ?aL ?_; (case aP => exact rfl); (case aB => exact (bw HB.out)); (case aF => exact (fun _ _ => trivial)); (case aO => exact (kr HO_9.out)); (case aS => exact (below_size (bw HB.out))); (case aL => have := LMc37.out; omega); intro v422 w38 ho hb hg hat; rw [← Ny421.out] at ho; have n0_ := Aside0.mk (Kd.S_after (ok := (fun _ => True)) (ks (Kd.S_mono HO_415000.out (fun _ hk => ⟨trivial, hk⟩))) hg hat); have n1_ := Aside0.mk (blk_grown (g := gb409) (o := .cells #[.slice none 0 0] 29 (0, 0)) (kb BK409.out) hg (Kd.R_ne HO_9.out BK409.out (by decide))); have n2_ := Aside0.mk (blk_grown (g := gb410) (o := .cells #[.slice none 0 0] 29 (0, 0)) (kb BK410.out) hg (Kd.R_ne HO_9.out BK410.out (by decide))); have n3_ := Aside0.mk (blk_grown (g := gb414) (o := .cells #[u415000] 29 (0, 0)) (kb BK414.out) hg (Kd.R_ne HO_9.out BK414.out (by decide))); have n4_ := Aside0.mk (hb); have n5_ := Aside0.mk (ho); clear HO_415000; clear BK409; clear BK410; clear BK414; clear HB; clear HO_9; have HO_415000 := n0_; have BK409 := n1_; have BK410 := n2_; have BK414 := n3_; have HB := n4_; have HO423 := n5_; clear n0_ n1_ n2_ n3_ n4_ n5_; clear ho hb hg hat))
                 repeat (go_quiet (first | ((with_reducible refine gate_builtin (b := .append) (xs := #[.tmp 68, .tmp 70]) rfl ?_); at_builtin; refine Kd.R_append (Kd.int .i64) (w0 := w) w.heap.size rfl (.tmp 68) (.tmp 70) 30 3 (.int .i64 0) 8 rfl Try.underlying30 info3 rfl (by decide) (by omega) u9 x9_3 (wrap64 (rd l0 (ji34))) [.int .i64 (wrap64 (rd l0 (ji34)))] (fun _ => True) (fun _ => False) rfl rfl ?aP (fun _ hk => hk.elim) ?aF ?aO ?aB ?aS ?aL ?_; (case aP => exact rfl); (case aB => exact (bw HB.out)); (case aF => exact (fun _ _ => trivial)); (case aO => exact (kr HO_9.out)); (case aS => exact (below_size (bw HB.out))); (case aL => have := LMc37.out; omega); intro v422 w38 ho hb hg hat; rw [← Ny421.out] at ho; have n0_ := Aside0.mk (Kd.S_after (ok := (fun _ => True)) (ks (Kd.S_mono HO_415000.out (fun _ hk => ⟨trivial, hk⟩))) hg hat); have n1_ := Aside0.mk (blk_grown (g := gb409) (o := .cells #[.slice none 0 0] 29 (0, 0)) (kb BK409.out) hg (Kd.R_ne HO_9.out BK409.out (by decide))); have n2_ := Aside0.mk (blk_grown (g := gb410) (o := .cells #[.slice none 0 0] 29 (0, 0)) (kb BK410.out) hg (Kd.R_ne HO_9.out BK410.out (by decide))); have n3_ := Aside0.mk (blk_grown (g := gb414) (o := .cells #[u415000] 29 (0, 0)) (kb BK414.out) hg (Kd.R_ne HO_9.out BK414.out (by decide))); have n4_ := Aside0.mk (hb); have n5_ := Aside0.mk (ho); clear HO_415000; clear BK409; clear BK410; clear BK414; clear HB; clear HO_9; have HO_415000 := n0_; have BK409 := n1_; have BK410 := n2_; have BK414 := n3_; have HB := n4_; have HO423 := n5_; clear n0_ n1_ n2_ n3_ n4_ n5_; clear ho hb hg hat)); try go_wp2_with (first | ((with_reducible refine gate_builtin (b := .append) (xs := #[.tmp 68, .tmp 70]) rfl ?_); at_builtin; refine Kd.R_append (Kd.int .i64) (w0 := w) w.heap.size rfl (.tmp 68) (.tmp 70) 30 3 (.int .i64 0) 8 rfl Try.underlying30 info3 rfl (by decide) (by omega) u9 x9_3 (wrap64 (rd l0 (ji34))) [.int .i64 (wrap64 (rd l0 (ji34)))] (fun _ => True) (fun _ => False) rfl rfl ?aP (fun _ hk => hk.elim) ?aF ?aO ?aB ?aS ?aL ?_; (case aP => exact rfl); (case aB => exact (bw HB.out)); (case aF => exact (fun _ _ => trivial)); (case aO => exact (kr HO_9.out)); (case aS => exact (below_size (bw HB.out))); (case aL => have := LMc37.out; omega); intro v422 w38 ho hb hg hat; rw [← Ny421.out] at ho; have n0_ := Aside0.mk (Kd.S_after (ok := (fun _ => True)) (ks (Kd.S_mono HO_415000.out (fun _ hk => ⟨trivial, hk⟩))) hg hat); have n1_ := Aside0.mk (blk_grown (g := gb409) (o := .cells #[.slice none 0 0] 29 (0, 0)) (kb BK409.out) hg (Kd.R_ne HO_9.out BK409.out (by decide))); have n2_ := Aside0.mk (blk_grown (g := gb410) (o := .cells #[.slice none 0 0] 29 (0, 0)) (kb BK410.out) hg (Kd.R_ne HO_9.out BK410.out (by decide))); have n3_ := Aside0.mk (blk_grown (g := gb414) (o := .cells #[u415000] 29 (0, 0)) (kb BK414.out) hg (Kd.R_ne HO_9.out BK414.out (by decide))); have n4_ := Aside0.mk (hb); have n5_ := Aside0.mk (ho); clear HO_415000; clear BK409; clear BK410; clear BK414; clear HB; clear HO_9; have HO_415000 := n0_; have BK409 := n1_; have BK410 := n2_; have BK414 := n3_; have HB := n4_; have HO423 := n5_; clear n0_ n1_ n2_ n3_ n4_ n5_; clear ho hb hg hat)))
                 go_roundg k3
                 case measure => have := HJ1.out; have := HK2.out; have := HK3.out; omega
                 case rel => exact ⟨(wrap64 (x7_3 + (wrap64 (rd l0 (ji34))))), (y421), (wrap64 (x10_3 + 1)), (by first | rfl | (simp; done) | (simp only [← hji34] <;> (first | rfl | simp)) | (simp [*]; done)), (by first | rfl | (simp; done) | (simp [*]; done)), H', ⟨by have := HJ1.out; have := HK2.out; have := HK3.out; omega⟩, ⟨kr HO423.out⟩, ⟨ks (Kd.S_mono HO_415000.out (fun _ hk => hk.2))⟩, ⟨kb BK409.out⟩, ⟨kb BK410.out⟩, ⟨kb BK414.out⟩, ⟨bw HB.out⟩⟩
                ·rw [if_neg c37] at H
                 exact absurd H (by simp)
               ·rw [if_neg c36] at H
                exact absurd H (by simp)
              ·rw [if_neg c35] at H
               exact absurd H (by simp)
             ·rw [if_neg c33] at H
              have c33b0 : decide (x10_3 < 256) = false := decide_eq_false c33
              clear c33
              by_cases c39 : x415000_2.length < 5864062014805
              ·rw [if_pos c39] at H
               have LMc39 := Aside0.mk c39
               clear c39
               obtain ⟨y424, hy424⟩ : ∃ y_ : List (List Int), y_ = (x415000_2 ++ [x9_3]) := ⟨_, rfl⟩
               replace H : (spec_ImageRead.l0 k3 l0 (wrap64 (rd l0 4)) x7_3 (wrap64 (x8_2 + 1)) y424) = some (r1, r2) := by first | (rw [hy424]; with_reducible exact H) | (have H2_ := (Option.bind_some _ _).symm.trans H; rw [hy424]; with_reducible exact H2_) | (have H2_ := (Option.bind_some _ _).symm.trans H; with_reducible exact H2_) | with_reducible exact H | (rw [hy424]; exact H) | exact H
               have Ny424 := Aside0.mk hy424
               clear hy424
               have H' := Aside0.mk H
               clear H
               have hnb40 := NB414_409.out
               have hnc40 := NB409_414.out
               have hnb41 := NB414_410.out
               have hnc41 := NB410_414.out
               have hcz42_0 : wr.cell? ⟨gb414, 0, none⟩ = some (u415000) := (blk_cell BK414.out 0).trans rfl
               have hfz42_0 := blk_frozen BK414.out 0
               obtain ⟨Ao44, co44, eo44⟩ := Kd.R_slice HO_9.out
               subst eo44
               go_wp2_with (first | ((with_reducible refine gate_builtin (b := .append) (xs := #[.tmp 76, .tmp 78]) rfl ?_); at_builtin; refine Kd.S_append (Kd.slice 3 (Kd.int .i64)) (w0 := w) w.heap.size rfl (.tmp 76) (.tmp 78) 27 30 (.slice none 0 0) 24 rfl Try.underlying27 info30 rfl (by decide) (by omega) u415000 x415000_2 x9_3 [.slice Ao44 x9_3.length co44] (fun _ => True) (fun k_ => some k_ = (.slice Ao44 x9_3.length co44 : Value).ownBlock) rfl rfl ?aP (fun k_ hk_ => ((Kd.R_mono (ok' := fun k_ => ((fun _ => True)) k_ ∧ some k_ ≠ (u415000 : Value).ownBlock) (Kd.R_apart' (HO_9.out) (Kd.S_typed HO_415000.out) (by decide)) (fun k_ hk => ⟨trivial, hk.2⟩))).1 k_ hk_.symm) ?aF ?aO ?aB ?aS ?aL ?_; (case aP => exact Kd.M_row (Kd.R_mono (Kd.R_tight rfl (Kd.R_mono (ok' := fun k_ => ((fun _ => True)) k_ ∧ some k_ ≠ (u415000 : Value).ownBlock) (Kd.R_apart' (HO_9.out) (Kd.S_typed HO_415000.out) (by decide)) (fun k_ hk => ⟨trivial, hk.2⟩))) (fun _ h_ => h_))); (case aB => exact (bw HB.out)); (case aF => exact (fun _ _ => trivial)); (case aO => exact (ks (Kd.S_mono HO_415000.out (fun k_ hk => ⟨trivial, fun e_ => hk e_⟩)))); (case aS => exact (below_size (bw HB.out))); (case aL => have := LMc39.out; omega); intro v425 w43 ho hb hg hat; rw [← Ny424.out] at ho; have n0_ := Aside0.mk (blk_grown (g := gb409) (o := .cells #[.slice none 0 0] 29 (0, 0)) (kb BK409.out) hg (Kd.S_ne HO_415000.out BK409.out (by decide))); have n1_ := Aside0.mk (blk_grown (g := gb410) (o := .cells #[.slice none 0 0] 29 (0, 0)) (kb BK410.out) hg (Kd.S_ne HO_415000.out BK410.out (by decide))); have n2_ := Aside0.mk (blk_grown (g := gb414) (o := .cells #[u415000] 29 (0, 0)) (kb BK414.out) hg (Kd.S_ne HO_415000.out BK414.out (by decide))); have n3_ := Aside0.mk (hb); have n4_ := Aside0.mk (ho); clear BK409; clear BK410; clear BK414; clear HB; clear HO_415000; clear HO_9; have BK409 := n0_; have BK410 := n1_; have BK414 := n2_; have HB := n3_; have HO426 := n4_; clear n0_ n1_ n2_ n3_ n4_; clear ho hb hg hat; obtain ⟨Ao45, co45, eo45⟩ := Kd.S_slice HO426.out; subst eo45; have hcz46_0 : w43.cell? ⟨gb414, 0, none⟩ = some (u415000) := (blk_cell BK414.out 0).trans rfl; have hfz46_0 := blk_frozen BK414.out 0))
               repeat (go_quiet (first | ((with_reducible refine gate_builtin (b := .append) (xs := #[.tmp 76, .tmp 78]) rfl ?_); at_builtin; refine Kd.S_append (Kd.slice 3 (Kd.int .i64)) (w0 := w) w.heap.size rfl (.tmp 76) (.tmp 78) 27 30 (.slice none 0 0) 24 rfl Try.underlying27 info30 rfl (by decide) (by omega) u415000 x415000_2 x9_3 [.slice Ao44 x9_3.length co44] (fun _ => True) (fun k_ => some k_ = (.slice Ao44 x9_3.length co44 : Value).ownBlock) rfl rfl ?aP (fun k_ hk_ => ((Kd.R_mono (ok' := fun k_ => ((fun _ => True)) k_ ∧ some k_ ≠ (u415000 : Value).ownBlock) (Kd.R_apart' (HO_9.out) (Kd.S_typed HO_415000.out) (by decide)) (fun k_ hk => ⟨trivial, hk.2⟩))).1 k_ hk_.symm) ?aF ?aO ?aB ?aS ?aL ?_; (case aP => exact Kd.M_row (Kd.R_mono (Kd.R_tight rfl (Kd.R_mono (ok' := fun k_ => ((fun _ => True)) k_ ∧ some k_ ≠ (u415000 : Value).ownBlock) (Kd.R_apart' (HO_9.out) (Kd.S_typed HO_415000.out) (by decide)) (fun k_ hk => ⟨trivial, hk.2⟩))) (fun _ h_ => h_))); (case aB => exact (bw HB.out)); (case aF => exact (fun _ _ => trivial)); (case aO => exact (ks (Kd.S_mono HO_415000.out (fun k_ hk => ⟨trivial, fun e_ => hk e_⟩)))); (case aS => exact (below_size (bw HB.out))); (case aL => have := LMc39.out; omega); intro v425 w43 ho hb hg hat; rw [← Ny424.out] at ho; have n0_ := Aside0.mk (blk_grown (g := gb409) (o := .cells #[.slice none 0 0] 29 (0, 0)) (kb BK409.out) hg (Kd.S_ne HO_415000.out BK409.out (by decide))); have n1_ := Aside0.mk (blk_grown (g := gb410) (o := .cells #[.slice none 0 0] 29 (0, 0)) (kb BK410.out) hg (Kd.S_ne HO_415000.out BK410.out (by decide))); have n2_ := Aside0.mk (blk_grown (g := gb414) (o := .cells #[u415000] 29 (0, 0)) (kb BK414.out) hg (Kd.S_ne HO_415000.out BK414.out (by decide))); have n3_ := Aside0.mk (hb); have n4_ := Aside0.mk (ho); clear BK409; clear BK410; clear BK414; clear HB; clear HO_415000; clear HO_9; have BK409 := n0_; have BK410 := n1_; have BK414 := n2_; have HB := n3_; have HO426 := n4_; clear n0_ n1_ n2_ n3_ n4_; clear ho hb hg hat; obtain ⟨Ao45, co45, eo45⟩ := Kd.S_slice HO426.out; subst eo45; have hcz46_0 : w43.cell? ⟨gb414, 0, none⟩ = some (u415000) := (blk_cell BK414.out 0).trans rfl; have hfz46_0 := blk_frozen BK414.out 0)); try go_wp2_with (first | ((with_reducible refine gate_builtin (b := .append) (xs := #[.tmp 76, .tmp 78]) rfl ?_); at_builtin; refine Kd.S_append (Kd.slice 3 (Kd.int .i64)) (w0 := w) w.heap.size rfl (.tmp 76) (.tmp 78) 27 30 (.slice none 0 0) 24 rfl Try.underlying27 info30 rfl (by decide) (by omega) u415000 x415000_2 x9_3 [.slice Ao44 x9_3.length co44] (fun _ => True) (fun k_ => some k_ = (.slice Ao44 x9_3.length co44 : Value).ownBlock) rfl rfl ?aP (fun k_ hk_ => ((Kd.R_mono (ok' := fun k_ => ((fun _ => True)) k_ ∧ some k_ ≠ (u415000 : Value).ownBlock) (Kd.R_apart' (HO_9.out) (Kd.S_typed HO_415000.out) (by decide)) (fun k_ hk => ⟨trivial, hk.2⟩))).1 k_ hk_.symm) ?aF ?aO ?aB ?aS ?aL ?_; (case aP => exact Kd.M_row (Kd.R_mono (Kd.R_tight rfl (Kd.R_mono (ok' := fun k_ => ((fun _ => True)) k_ ∧ some k_ ≠ (u415000 : Value).ownBlock) (Kd.R_apart' (HO_9.out) (Kd.S_typed HO_415000.out) (by decide)) (fun k_ hk => ⟨trivial, hk.2⟩))) (fun _ h_ => h_))); (case aB => exact (bw HB.out)); (case aF => exact (fun _ _ => trivial)); (case aO => exact (ks (Kd.S_mono HO_415000.out (fun k_ hk => ⟨trivial, fun e_ => hk e_⟩)))); (case aS => exact (below_size (bw HB.out))); (case aL => have := LMc39.out; omega); intro v425 w43 ho hb hg hat; rw [← Ny424.out] at ho; have n0_ := Aside0.mk (blk_grown (g := gb409) (o := .cells #[.slice none 0 0] 29 (0, 0)) (kb BK409.out) hg (Kd.S_ne HO_415000.out BK409.out (by decide))); have n1_ := Aside0.mk (blk_grown (g := gb410) (o := .cells #[.slice none 0 0] 29 (0, 0)) (kb BK410.out) hg (Kd.S_ne HO_415000.out BK410.out (by decide))); have n2_ := Aside0.mk (blk_grown (g := gb414) (o := .cells #[u415000] 29 (0, 0)) (kb BK414.out) hg (Kd.S_ne HO_415000.out BK414.out (by decide))); have n3_ := Aside0.mk (hb); have n4_ := Aside0.mk (ho); clear BK409; clear BK410; clear BK414; clear HB; clear HO_415000; clear HO_9; have BK409 := n0_; have BK410 := n1_; have BK414 := n2_; have HB := n3_; have HO426 := n4_; clear n0_ n1_ n2_ n3_ n4_; clear ho hb hg hat; obtain ⟨Ao45, co45, eo45⟩ := Kd.S_slice HO426.out; subst eo45; have hcz46_0 : w43.cell? ⟨gb414, 0, none⟩ = some (u415000) := (blk_cell BK414.out 0).trans rfl; have hfz46_0 := blk_frozen BK414.out 0)))
               go_roundg k3
               case measure => have := HJ1.out; have := HK2.out; have := HK3.out; omega
               case rel => exact ⟨(x7_3), (wrap64 (x8_2 + 1)), (y424), (.slice Ao45 y424.length co45), (by first | rfl | (simp; done) | (simp [*]; done)), (by first | rfl | (simp; done) | (simp [*]; done)), H', ⟨by have := HJ1.out; have := HK2.out; have := HK3.out; omega⟩, ⟨ks (Kd.S_mono (Kd.S_far (p := ⟨gb414, 0, none⟩) (Kd.S_types HO426.out BK414.out (by decide)) (fun _ hk => hk.2) (.slice Ao45 y424.length co45)) (fun _ hk => trivial))⟩, ⟨kf BK409.out⟩, ⟨kf BK410.out⟩, ⟨kt BK414.out⟩, ⟨bw HB.out⟩⟩
              ·rw [if_neg c39] at H
               exact absurd H (by simp)
          ·rw [if_neg c30] at H
           have c30b0 : decide (x8_2 < (wrap64 (rd l0 4))) = false := decide_eq_false c30
           clear c30
           replace H := Option.bind_eq_some_iff.mp H
           obtain ⟨t415, A470, H⟩ := H
           replace H : (if 5 < (l0.length : Int) then (if t415 = (wrap64 (rd l0 5)) then (some (x415000_2, 0)) else (some (([] : List (List Int)), 5))) else (none)) = some (r1, r2) := H
           have A47 := Aside0.mk A470
           clear A470
           by_cases c48 : 5 < (l0.length : Int)
           ·rw [if_pos c48] at H
            have c48b0 : decide (5 < (l0.length : Int)) = true := decide_eq_true c48
            have c48b1 : decide (5 < l0.length) = true := decide_eq_true (by omega)
            clear c48
            by_cases c49 : t415 = (wrap64 (rd l0 5))
            ·rw [if_pos c49] at H
             have c49b0 : (t415 == (wrap64 (rd l0 5))) = true := beq_iff_eq.mpr c49
             have c49b0w : (t415 == (IntKind.i64.wrap (rd l0 5))) = true := by rw [i64_w]; exact c49b0
             have c49b1 : (t415 != (wrap64 (rd l0 5))) = false := bne_eq_false_iff_eq.mpr c49
             have c49b1w : (t415 != (IntKind.i64.wrap (rd l0 5))) = false := by rw [i64_w]; exact c49b1
             clear c49
             simp only [Option.some.injEq, Prod.mk.injEq] at H
             obtain ⟨rfl, rfl⟩ := H
             go_wp2_with (first | (go_at_call 71; (with_reducible refine (spec_Byte.calls x7_2 t415 _ A47.out).mono ?_); rintro e w' ⟨rfl, ⟨nd, rfl⟩⟩; (try first | exact ⟨rfl, _, World.drewN_drewN _ _ _⟩ | exact ⟨rfl, _, Eq.trans (World.drewN_drewN _ _ _) (congrArg (World.drewN _) (Nat.add_assoc _ _ _))⟩); have p416 : 0 ≤ (5 : Int) := (by omega); have q416 : 5 < (l0.length : Int) := dt; obtain ⟨ad416, e416, hx416_0⟩ := Kd.at_int HR0.out 5 p416 q416; obtain rfl : ad412 = ad416 := (by injection e416); (try simp only [show (5 : Int).toNat = 5 from rfl, Nat.reduceMul, Nat.reduceEqDiff, Go.Addr.add, ↓reduceIte] at hx416_0); have qi416 : (5 < l0.length) = True := eq_true (by omega); (try rw [show ((5 : Int)).toNat = 5 from rfl] at hx416_0); replace hx416_0 := (HB.out.cell (World.block_lt_of_cell? w _ hx416_0)).trans hx416_0; replace p416 := eq_true p416; replace q416 := eq_true q416; have hnb50 := NB414_409.out; have hnc50 := NB409_414.out; have hnb51 := NB414_410.out; have hnc51 := NB410_414.out; have hcz52_0 : wr.cell? ⟨gb414, 0, none⟩ = some (u415000) := (blk_cell BK414.out 0).trans rfl; have hfz52_0 := blk_frozen BK414.out 0; obtain ⟨Ao53, co53, eo53⟩ := Kd.S_slice HO_415000.out; subst eo53; have hnb54 := NB409_410.out; have hnc54 := NB410_409.out; have hcz55_0 : wr.cell? ⟨gb409, 0, none⟩ = some (.slice none 0 0) := (blk_cell BK409.out 0).trans rfl; have hfz55_0 := blk_frozen BK409.out 0))
             repeat (go_quiet (first | (go_at_call 71; (with_reducible refine (spec_Byte.calls x7_2 t415 _ A47.out).mono ?_); rintro e w' ⟨rfl, ⟨nd, rfl⟩⟩; (try first | exact ⟨rfl, _, World.drewN_drewN _ _ _⟩ | exact ⟨rfl, _, Eq.trans (World.drewN_drewN _ _ _) (congrArg (World.drewN _) (Nat.add_assoc _ _ _))⟩); have p416 : 0 ≤ (5 : Int) := (by omega); have q416 : 5 < (l0.length : Int) := dt; obtain ⟨ad416, e416, hx416_0⟩ := Kd.at_int HR0.out 5 p416 q416; obtain rfl : ad412 = ad416 := (by injection e416); (try simp only [show (5 : Int).toNat = 5 from rfl, Nat.reduceMul, Nat.reduceEqDiff, Go.Addr.add, ↓reduceIte] at hx416_0); have qi416 : (5 < l0.length) = True := eq_true (by omega); (try rw [show ((5 : Int)).toNat = 5 from rfl] at hx416_0); replace hx416_0 := (HB.out.cell (World.block_lt_of_cell? w _ hx416_0)).trans hx416_0; replace p416 := eq_true p416; replace q416 := eq_true q416; have hnb50 := NB414_409.out; have hnc50 := NB409_414.out; have hnb51 := NB414_410.out; have hnc51 := NB410_414.out; have hcz52_0 : wr.cell? ⟨gb414, 0, none⟩ = some (u415000) := (blk_cell BK414.out 0).trans rfl; have hfz52_0 := blk_frozen BK414.out 0; obtain ⟨Ao53, co53, eo53⟩ := Kd.S_slice HO_415000.out; subst eo53; have hnb54 := NB409_410.out; have hnc54 := NB410_409.out; have hcz55_0 : wr.cell? ⟨gb409, 0, none⟩ = some (.slice none 0 0) := (blk_cell BK409.out 0).trans rfl; have hfz55_0 := blk_frozen BK409.out 0)); try go_wp2_with (first | (go_at_call 71; (with_reducible refine (spec_Byte.calls x7_2 t415 _ A47.out).mono ?_); rintro e w' ⟨rfl, ⟨nd, rfl⟩⟩; (try first | exact ⟨rfl, _, World.drewN_drewN _ _ _⟩ | exact ⟨rfl, _, Eq.trans (World.drewN_drewN _ _ _) (congrArg (World.drewN _) (Nat.add_assoc _ _ _))⟩); have p416 : 0 ≤ (5 : Int) := (by omega); have q416 : 5 < (l0.length : Int) := dt; obtain ⟨ad416, e416, hx416_0⟩ := Kd.at_int HR0.out 5 p416 q416; obtain rfl : ad412 = ad416 := (by injection e416); (try simp only [show (5 : Int).toNat = 5 from rfl, Nat.reduceMul, Nat.reduceEqDiff, Go.Addr.add, ↓reduceIte] at hx416_0); have qi416 : (5 < l0.length) = True := eq_true (by omega); (try rw [show ((5 : Int)).toNat = 5 from rfl] at hx416_0); replace hx416_0 := (HB.out.cell (World.block_lt_of_cell? w _ hx416_0)).trans hx416_0; replace p416 := eq_true p416; replace q416 := eq_true q416; have hnb50 := NB414_409.out; have hnc50 := NB409_414.out; have hnb51 := NB414_410.out; have hnc51 := NB410_414.out; have hcz52_0 : wr.cell? ⟨gb414, 0, none⟩ = some (u415000) := (blk_cell BK414.out 0).trans rfl; have hfz52_0 := blk_frozen BK414.out 0; obtain ⟨Ao53, co53, eo53⟩ := Kd.S_slice HO_415000.out; subst eo53; have hnb54 := NB409_410.out; have hnc54 := NB410_409.out; have hcz55_0 : wr.cell? ⟨gb409, 0, none⟩ = some (.slice none 0 0) := (blk_cell BK409.out 0).trans rfl; have hfz55_0 := blk_frozen BK409.out 0)))
             refine bodyPost_ret (results_ct rfl _ _ gb409 29 #[.slice Ao53 x415000_2.length co53] (0, 0) _ rfl (kt BK409.out) Try.underlying29 rfl (by kernel_rfl)) rfl ?_
             exact ⟨_, rt, ks (Kd.S_mono (Kd.S_far (p := ⟨gb409, 0, none⟩) (Kd.S_types HO_415000.out BK409.out (by decide)) (fun _ hk => hk.2) (.slice Ao53 x415000_2.length co53)) (fun _ hk => trivial)), bw HB.out⟩
            ·rw [if_neg c49] at H
             have c49b0 : (t415 == (wrap64 (rd l0 5))) = false := beq_eq_false_iff_ne.mpr c49
             have c49b0w : (t415 == (IntKind.i64.wrap (rd l0 5))) = false := by rw [i64_w]; exact c49b0
             have c49b1 : (t415 != (wrap64 (rd l0 5))) = true := bne_iff_ne.mpr c49
             have c49b1w : (t415 != (IntKind.i64.wrap (rd l0 5))) = true := by rw [i64_w]; exact c49b1
             simp only [Option.some.injEq, Prod.mk.injEq] at H
             obtain ⟨rfl, rfl⟩ := H
             go_wp2_with (first | (go_at_call 71; (with_reducible refine (spec_Byte.calls x7_2 t415 _ A47.out).mono ?_); rintro e w' ⟨rfl, ⟨nd, rfl⟩⟩; (try first | exact ⟨rfl, _, World.drewN_drewN _ _ _⟩ | exact ⟨rfl, _, Eq.trans (World.drewN_drewN _ _ _) (congrArg (World.drewN _) (Nat.add_assoc _ _ _))⟩); have p416 : 0 ≤ (5 : Int) := (by omega); have q416 : 5 < (l0.length : Int) := dt; obtain ⟨ad416, e416, hx416_0⟩ := Kd.at_int HR0.out 5 p416 q416; obtain rfl : ad412 = ad416 := (by injection e416); (try simp only [show (5 : Int).toNat = 5 from rfl, Nat.reduceMul, Nat.reduceEqDiff, Go.Addr.add, ↓reduceIte] at hx416_0); have qi416 : (5 < l0.length) = True := eq_true (by omega); (try rw [show ((5 : Int)).toNat = 5 from rfl] at hx416_0); replace hx416_0 := (HB.out.cell (World.block_lt_of_cell? w _ hx416_0)).trans hx416_0; replace p416 := eq_true p416; replace q416 := eq_true q416; have hnb56 := NB410_409.out; have hnc56 := NB409_410.out; have hnb57 := NB410_414.out; have hnc57 := NB414_410.out; have hcz58_0 : wr.cell? ⟨gb410, 0, none⟩ = some (.slice none 0 0) := (blk_cell BK410.out 0).trans rfl; have hfz58_0 := blk_frozen BK410.out 0; have hnb59 := NB409_414.out; have hnc59 := NB414_409.out; have hcz60_0 : wr.cell? ⟨gb409, 0, none⟩ = some (.slice none 0 0) := (blk_cell BK409.out 0).trans rfl; have hfz60_0 := blk_frozen BK409.out 0))
             repeat (go_quiet (first | (go_at_call 71; (with_reducible refine (spec_Byte.calls x7_2 t415 _ A47.out).mono ?_); rintro e w' ⟨rfl, ⟨nd, rfl⟩⟩; (try first | exact ⟨rfl, _, World.drewN_drewN _ _ _⟩ | exact ⟨rfl, _, Eq.trans (World.drewN_drewN _ _ _) (congrArg (World.drewN _) (Nat.add_assoc _ _ _))⟩); have p416 : 0 ≤ (5 : Int) := (by omega); have q416 : 5 < (l0.length : Int) := dt; obtain ⟨ad416, e416, hx416_0⟩ := Kd.at_int HR0.out 5 p416 q416; obtain rfl : ad412 = ad416 := (by injection e416); (try simp only [show (5 : Int).toNat = 5 from rfl, Nat.reduceMul, Nat.reduceEqDiff, Go.Addr.add, ↓reduceIte] at hx416_0); have qi416 : (5 < l0.length) = True := eq_true (by omega); (try rw [show ((5 : Int)).toNat = 5 from rfl] at hx416_0); replace hx416_0 := (HB.out.cell (World.block_lt_of_cell? w _ hx416_0)).trans hx416_0; replace p416 := eq_true p416; replace q416 := eq_true q416; have hnb56 := NB410_409.out; have hnc56 := NB409_410.out; have hnb57 := NB410_414.out; have hnc57 := NB414_410.out; have hcz58_0 : wr.cell? ⟨gb410, 0, none⟩ = some (.slice none 0 0) := (blk_cell BK410.out 0).trans rfl; have hfz58_0 := blk_frozen BK410.out 0; have hnb59 := NB409_414.out; have hnc59 := NB414_409.out; have hcz60_0 : wr.cell? ⟨gb409, 0, none⟩ = some (.slice none 0 0) := (blk_cell BK409.out 0).trans rfl; have hfz60_0 := blk_frozen BK409.out 0)); try go_wp2_with (first | (go_at_call 71; (with_reducible refine (spec_Byte.calls x7_2 t415 _ A47.out).mono ?_); rintro e w' ⟨rfl, ⟨nd, rfl⟩⟩; (try first | exact ⟨rfl, _, World.drewN_drewN _ _ _⟩ | exact ⟨rfl, _, Eq.trans (World.drewN_drewN _ _ _) (congrArg (World.drewN _) (Nat.add_assoc _ _ _))⟩); have p416 : 0 ≤ (5 : Int) := (by omega); have q416 : 5 < (l0.length : Int) := dt; obtain ⟨ad416, e416, hx416_0⟩ := Kd.at_int HR0.out 5 p416 q416; obtain rfl : ad412 = ad416 := (by injection e416); (try simp only [show (5 : Int).toNat = 5 from rfl, Nat.reduceMul, Nat.reduceEqDiff, Go.Addr.add, ↓reduceIte] at hx416_0); have qi416 : (5 < l0.length) = True := eq_true (by omega); (try rw [show ((5 : Int)).toNat = 5 from rfl] at hx416_0); replace hx416_0 := (HB.out.cell (World.block_lt_of_cell? w _ hx416_0)).trans hx416_0; replace p416 := eq_true p416; replace q416 := eq_true q416; have hnb56 := NB410_409.out; have hnc56 := NB409_410.out; have hnb57 := NB410_414.out; have hnc57 := NB414_410.out; have hcz58_0 : wr.cell? ⟨gb410, 0, none⟩ = some (.slice none 0 0) := (blk_cell BK410.out 0).trans rfl; have hfz58_0 := blk_frozen BK410.out 0; have hnb59 := NB409_414.out; have hnc59 := NB414_409.out; have hcz60_0 : wr.cell? ⟨gb409, 0, none⟩ = some (.slice none 0 0) := (blk_cell BK409.out 0).trans rfl; have hfz60_0 := blk_frozen BK409.out 0)))
             refine bodyPost_ret (results_ct rfl _ _ gb409 29 #[.slice none 0 0] (0, 0) _ rfl (kt BK409.out) Try.underlying29 rfl (by kernel_rfl)) rfl ?_
             exact ⟨_, rt, by first | exact Kd.S_nil _ _ _ _ _ | exact Kd.N_nil _ _ _ _ _ | exact Kd.V_nil _ _ _ _ _ | exact Kd.Q_nil _ _ _ _ _ | exact Kd.R_nil _ _ _ _ _, bw HB.out⟩
           ·rw [if_neg c48] at H
            exact absurd H (by simp)
     ·replace c17 := Bool.eq_false_iff.mpr c17
      subst c17
      have H1 : (some (([] : List (List Int)), 2)) = some (r1, r2) := by rw [if_neg (show ¬ (false = true) by decide)] at H; exact H
      clear H
      have H := H1
      clear H1
      simp only [Option.some.injEq, Prod.mk.injEq] at H
      obtain ⟨rfl, rfl⟩ := H
      have p412 : 0 ≤ (4 : Int) := (by omega)
      have q412 : 4 < (l0.length : Int) := dt
      obtain ⟨ad412, e412, hx412_0⟩ := Kd.at_int HR0.out 4 p412 q412
      cases e412
      (try simp only [show (4 : Int).toNat = 4 from rfl, Nat.reduceMul, Nat.reduceEqDiff, Go.Addr.add, ↓reduceIte] at hx412_0)
      have qi412 : (4 < l0.length) = True := eq_true (by omega)
      (try rw [show ((4 : Int)).toNat = 4 from rfl] at hx412_0)
      replace hx412_0 := (HB.out.cell (World.block_lt_of_cell? w _ hx412_0)).trans hx412_0
      replace p412 := eq_true p412
      replace q412 := eq_true q412
      go_wp2_with (first | (go_at_call 68; (with_reducible refine (spec_l1In.calls (wrap64 (rd l0 4)) 1 8 false _ A16.out).mono ?_); rintro e w' ⟨rfl, ⟨nd, rfl⟩⟩; (try first | exact ⟨rfl, _, World.drewN_drewN _ _ _⟩ | exact ⟨rfl, _, Eq.trans (World.drewN_drewN _ _ _) (congrArg (World.drewN _) (Nat.add_assoc _ _ _))⟩); have hnb61 := NB410_409.out; have hnc61 := NB409_410.out; have hcz62_0 : wc.cell? ⟨gb410, 0, none⟩ = some (.slice none 0 0) := (blk_cell BK410.out 0).trans rfl; have hfz62_0 := blk_frozen BK410.out 0; have hcz63_0 : wc.cell? ⟨gb409, 0, none⟩ = some (.slice none 0 0) := (blk_cell BK409.out 0).trans rfl; have hfz63_0 := blk_frozen BK409.out 0))
      repeat (go_quiet (first | (go_at_call 68; (with_reducible refine (spec_l1In.calls (wrap64 (rd l0 4)) 1 8 false _ A16.out).mono ?_); rintro e w' ⟨rfl, ⟨nd, rfl⟩⟩; (try first | exact ⟨rfl, _, World.drewN_drewN _ _ _⟩ | exact ⟨rfl, _, Eq.trans (World.drewN_drewN _ _ _) (congrArg (World.drewN _) (Nat.add_assoc _ _ _))⟩); have hnb61 := NB410_409.out; have hnc61 := NB409_410.out; have hcz62_0 : wc.cell? ⟨gb410, 0, none⟩ = some (.slice none 0 0) := (blk_cell BK410.out 0).trans rfl; have hfz62_0 := blk_frozen BK410.out 0; have hcz63_0 : wc.cell? ⟨gb409, 0, none⟩ = some (.slice none 0 0) := (blk_cell BK409.out 0).trans rfl; have hfz63_0 := blk_frozen BK409.out 0)); try go_wp2_with (first | (go_at_call 68; (with_reducible refine (spec_l1In.calls (wrap64 (rd l0 4)) 1 8 false _ A16.out).mono ?_); rintro e w' ⟨rfl, ⟨nd, rfl⟩⟩; (try first | exact ⟨rfl, _, World.drewN_drewN _ _ _⟩ | exact ⟨rfl, _, Eq.trans (World.drewN_drewN _ _ _) (congrArg (World.drewN _) (Nat.add_assoc _ _ _))⟩); have hnb61 := NB410_409.out; have hnc61 := NB409_410.out; have hcz62_0 : wc.cell? ⟨gb410, 0, none⟩ = some (.slice none 0 0) := (blk_cell BK410.out 0).trans rfl; have hfz62_0 := blk_frozen BK410.out 0; have hcz63_0 : wc.cell? ⟨gb409, 0, none⟩ = some (.slice none 0 0) := (blk_cell BK409.out 0).trans rfl; have hfz63_0 := blk_frozen BK409.out 0)))
      refine bodyPost_ret (results_ct rfl _ _ gb409 29 #[.slice none 0 0] (0, 0) _ rfl (kt BK409.out) Try.underlying29 rfl (by kernel_rfl)) rfl ?_
      exact ⟨_, rt, by first | exact Kd.S_nil _ _ _ _ _ | exact Kd.N_nil _ _ _ _ _ | exact Kd.V_nil _ _ _ _ _ | exact Kd.Q_nil _ _ _ _ _ | exact Kd.R_nil _ _ _ _ _, bw HB.out⟩
    ·rw [if_neg c15] at H
     exact absurd H (by simp)

/-! ### spec_DrawBankOf: function 25 -/
def spec_DrawBankOf.f (k : Nat) (l0 : List Int) : Option ((List (List Int)) × Int) := (spec_l1New.f k l0).bind fun bt428 => ((spec_l2Draw.f k bt428.1 bt428.2.1 bt428.2.2).bind fun bt432 => ((spec_l1PickInt.f bt428.1 bt432.2.1 bt432.2.2 (([0, 1, 2, 7, (-1), 255, (-9223372036854775808)] : List Int))).bind fun bt441 => (some (bt432.1, bt441.1))))
theorem spec_DrawBankOf.mono : ∀ a0 k, LeO (spec_DrawBankOf.f k a0) (spec_DrawBankOf.f (k + 1) a0) := by
 intro a0 k
 unfold spec_DrawBankOf.f
 repeat' first
   | (with_reducible exact spec_l1New.mono _ _)
   | (with_reducible exact spec_l2Draw.mono _ _ _ _)
   | (with_reducible exact LeO.refl _)
   | (with_reducible exact LeO.none _)
   | (with_reducible refine LeO.ite ?_ ?_)
   | (with_reducible refine LeO.bind ?_ (fun _ => ?_))
   | exact spec_l1New.mono _ _
   | exact spec_l2Draw.mono _ _ _ _
   | exact LeO.none _
   | refine LeO.ite ?_ ?_
   | refine LeO.bind ?_ (fun _ => ?_)
set_option maxHeartbeats 8000000 in
set_option maxRecDepth 100000 in
theorem spec_DrawBankOf.calls (k : Nat) (A0 : Option Addr) (c0 : Nat) (l0 : List Int) (r1 : List (List Int)) (r2 : Int) (w : World) (hr0 : Kd.C (Kd.int .u8) w A0 l0.length l0) (hc0 : l0.length ≤ c0) (h : spec_DrawBankOf.f k l0 = some (r1, r2)) :
  Calls Try.prog 25 #[.slice A0 l0.length c0] w fun e w' => ∃ v0_ : Value, e = .returned (.tuple #[.agg #[v0_], .int .i64 r2]) ∧ Kd.S (cutK 3 (Kd.int .i64)) 30 w' w.heap.size (fun _ => True) v0_ r1 ∧ Below w.heap.size w w' := by
 have hu29 := Try.underlying29
 have HR0 := Aside0.mk hr0
 have HC0 := Aside0.mk hc0
 clear hr0 hc0
 have HB := Aside0.mk (Below.refl w.heap.size w)
 have H : ((spec_l1New.f k l0).bind fun bt428 => ((spec_l2Draw.f k bt428.1 bt428.2.1 bt428.2.2).bind fun bt432 => ((spec_l1PickInt.f bt428.1 bt432.2.1 bt432.2.2 (([0, 1, 2, 7, (-1), 255, (-9223372036854775808)] : List Int))).bind fun bt441 => (some (bt432.1, bt441.1))))) = some (r1, r2) := h
 clear h
 replace H := Option.bind_eq_some_iff.mp H
 obtain ⟨⟨t428, t429, t430⟩, A20, H⟩ := H
 replace H : ((spec_l2Draw.f k t428 t429 t430).bind fun bt432 => ((spec_l1PickInt.f t428 bt432.2.1 bt432.2.2 (([0, 1, 2, 7, (-1), 255, (-9223372036854775808)] : List Int))).bind fun bt441 => (some (bt432.1, bt441.1)))) = some (r1, r2) := H
 have A2 := Aside0.mk A20
 clear A20
 replace H := Option.bind_eq_some_iff.mp H
 obtain ⟨⟨t432, t435, t436⟩, A30, H⟩ := H
 replace H : ((spec_l1PickInt.f t428 t435 t436 (([0, 1, 2, 7, (-1), 255, (-9223372036854775808)] : List Int))).bind fun bt441 => (some (t432, bt441.1))) = some (r1, r2) := H
 have A3 := Aside0.mk A30
 clear A30
 obtain ⟨y438, hy438⟩ : ∃ y_ : List Int, y_ = (([0, 1, 2, 7, (-1), 255, (-9223372036854775808)] : List Int)) := ⟨_, rfl⟩
 replace H : ((spec_l1PickInt.f t428 t435 t436 y438).bind fun bt441 => (some (t432, bt441.1))) = some (r1, r2) := by first | (rw [hy438]; with_reducible exact H) | (have H2_ := (Option.bind_some _ _).symm.trans H; rw [hy438]; with_reducible exact H2_) | (have H2_ := (Option.bind_some _ _).symm.trans H; with_reducible exact H2_) | with_reducible exact H | (rw [hy438]; exact H) | exact H
 have Ny438 := Aside0.mk hy438
 clear hy438
 replace H := Option.bind_eq_some_iff.mp H
 obtain ⟨⟨t441, t442, t443⟩, A40, H⟩ := H
 replace H : (some (t432, t441)) = some (r1, r2) := H
 have A4 := Aside0.mk A40
 clear A40
 simp only [Option.some.injEq, Prod.mk.injEq] at H
 obtain ⟨rfl, rfl⟩ := H
 go_enter Try.func25, Try.ntmps25
 try go_wp2_with (first | ((with_reducible refine gate_dst (N := 2) rfl ?_); refine bx (N := 2) (cs := #[.slice none 0 0]) (t := 29) ?_; intro gb427 hg w5 hbox hb; have n0_ := Aside0.mk (below_step (bw HB.out) hb); have n1_ := Aside0.mk (hbox); have n2_ := Aside0.mk ((gs hg (bw HB.out))); have n3_ := Aside0.mk ((gs hg (bw HB.out))); clear HB; have HB := n0_; have BK427 := n1_; have GW427 := n2_; have GE427 := n3_; clear n0_ n1_ n2_ n3_; clear hb hbox hg) | ((with_reducible refine gate_callee (f := 57) rfl ?_); refine goesM_ (some 7) rfl rfl Try.func57 #[.slice A0 l0.length c0] ?_; (with_reducible refine (spec_l1New.calls k _ _ l0 t428 t429 t430 w _ ?side1 ?side2 ?side3 A2.out).mono ?_); (case side1 => exact bw HB.out); (case side2 => exact HR0.out); (case side3 => exact HC0.out); rintro e w6 ⟨g431, rfl, hi, hb, hb2⟩; refine ⟨_, rfl, ?_⟩; have n0_ := Aside0.mk (blk_below (g := gb427) (o := .cells #[.slice none 0 0] 29 (0, 0)) (kb BK427.out) hb2); have n1_ := Aside0.mk (hb); have n2_ := Aside0.mk (hi); have n3_ := Aside0.mk (IsS107.ne_blk hi (blk_below (g := gb427) (o := .cells #[.slice none 0 0] 29 (0, 0)) (kb BK427.out) hb2) (by decide)); have n4_ := Aside0.mk (Ne.symm (IsS107.ne_blk hi (blk_below (g := gb427) (o := .cells #[.slice none 0 0] 29 (0, 0)) (kb BK427.out) hb2) (by decide))); clear BK427; clear HB; have BK427 := n0_; have HB := n1_; have HI431 := n2_; have NB431_427 := n3_; have NB427_431 := n4_; clear n0_ n1_ n2_ n3_ n4_; (try clear hb); (try clear hb2); (try clear hk); (try clear hi)) | ((with_reducible refine gate_callee (f := 65) rfl ?_); refine goesM_ (some 9) rfl rfl Try.func65 #[.pointer (some ⟨g431, 0, none⟩)] ?_; (with_reducible refine (spec_l2Draw.calls k g431 t428 t429 t430 t432 t435 t436 w _ ?side1 ?side2 A3.out).mono ?_); (case side1 => exact si HI431.out); (case side2 => exact bi HB.out); rintro e w7 ⟨v433, rfl, ho0, hi, hb, hk⟩; refine ⟨_, rfl, ?_⟩; have n0_ := Aside0.mk (KeepBut.blk hk (g' := gb427) (o := .cells #[.slice none 0 0] 29 (0, 0)) (kb BK427.out) NB427_431.out (by simp)); have n1_ := Aside0.mk (Kd.S_lower ho0 (below_size (bi HB.out))); have n2_ := Aside0.mk (hb); have n3_ := Aside0.mk (hi); clear BK427; clear HB; clear HI431; have BK427 := n0_; have HO434 := n1_; have HB := n2_; have HI431 := n3_; clear n0_ n1_ n2_ n3_; (try clear hb); (try clear hb2); (try clear hk); (try clear hi); (try clear ho0)) | ((with_reducible refine gate_dst (N := 5) rfl ?_); refine bx (N := 5) (cs := #[.slice none 0 0]) (t := 29) ?_; intro gb437 hg w8 hbox hb; have n0_ := Aside0.mk (Kd.S_below (ks HO434.out) hb); have n1_ := Aside0.mk (blk_below (g := gb427) (o := .cells #[.slice none 0 0] 29 (0, 0)) (kb BK427.out) hb); have n2_ := Aside0.mk (IsS107.below (si HI431.out) hb); have n3_ := Aside0.mk (below_step (bi HB.out) hb); have n4_ := Aside0.mk (hbox); have n5_ := Aside0.mk ((gs hg (bi HB.out))); have n6_ := Aside0.mk ((gs hg (bi HB.out))); have n7_ := Aside0.mk ((ga hg BK427.out)); have n8_ := Aside0.mk ((gc hg BK427.out)); have n9_ := Aside0.mk ((by rw [hg]; exact Nat.ne_of_lt (IsS107.lt (show IsS107 w _ g431 t428 t435 t436 from si HI431.out)) : g431 ≠ gb437)); have n10_ := Aside0.mk ((by rw [hg]; exact Nat.ne_of_gt (IsS107.lt (show IsS107 w _ g431 t428 t435 t436 from si HI431.out)) : gb437 ≠ g431)); clear HO434; clear BK427; clear HI431; clear HB; have HO434 := n0_; have BK427 := n1_; have HI431 := n2_; have HB := n3_; have BK437 := n4_; have GW437 := n5_; have GE437 := n6_; have NB427_437 := n7_; have NB437_427 := n8_; have NB431_437 := n9_; have NB437_431 := n10_; clear n0_ n1_ n2_ n3_ n4_ n5_ n6_ n7_ n8_ n9_ n10_; clear hb hbox hg; obtain ⟨Ao9, co9, eo9⟩ := Kd.S_slice HO434.out; subst eo9; have hnb10 := NB437_427.out; have hnc10 := NB427_437.out; have hnb11 := NB437_431.out; have hnc11 := NB431_437.out; have hcz12_0 : w8.cell? ⟨gb437, 0, none⟩ = some (.slice none 0 0) := (blk_cell BK437.out 0).trans rfl; have hfz12_0 := blk_frozen BK437.out 0))
 have n0_ : Aside0 (Kd.S (cutK 3 (Kd.int .i64)) 30 (w8.setCell ⟨gb437, 0, none⟩ (.slice Ao9 t432.length co9)) w.heap.size (fun _ => True) (.slice Ao9 t432.length co9) t432) := ⟨ks (Kd.S_mono (Kd.S_far (p := ⟨gb437, 0, none⟩) (Kd.S_types HO434.out BK437.out (by decide)) (fun _ hk => hk.2) (.slice Ao9 t432.length co9)) (fun _ hk => trivial))⟩
 have n1_ : Aside0 ((w8.setCell ⟨gb437, 0, none⟩ (.slice Ao9 t432.length co9)).heap[gb427]? = some (.cells #[.slice none 0 0] 29 (0, 0))) := ⟨kf BK427.out⟩
 have n2_ : Aside0 ((w8.setCell ⟨gb437, 0, none⟩ (.slice Ao9 t432.length co9)).heap[gb437]? = some (.cells #[.slice Ao9 t432.length co9] 29 (0, 0))) := ⟨kt BK437.out⟩
 have n3_ : Aside0 (IsS107 w (w8.setCell ⟨gb437, 0, none⟩ (.slice Ao9 t432.length co9)) g431 t428 t435 t436) := ⟨si HI431.out⟩
 have n4_ : Aside0 (Below w.heap.size w (w8.setCell ⟨gb437, 0, none⟩ (.slice Ao9 t432.length co9))) := ⟨bi HB.out⟩
 (try clear HO434); (try clear BK427); (try clear BK437); (try clear HI431); (try clear HB)
 generalize (w8.setCell ⟨gb437, 0, none⟩ (.slice Ao9 t432.length co9)) = w13 at n0_ n1_ n2_ n3_ n4_ ⊢
 have HO434 := n0_; have BK427 := n1_; have BK437 := n2_; have HI431 := n3_; have HB := n4_; clear n0_ n1_ n2_ n3_ n4_
 have n0_ := Aside0.mk (Kd.S_drew HO434.out)
 have n1_ := Aside0.mk (blk_drew BK427.out)
 have n2_ := Aside0.mk (blk_drew BK437.out)
 have n3_ := Aside0.mk (IsS107.drew HI431.out)
 have n4_ := Aside0.mk (below_drew1 HB.out)
 clear HO434; clear BK427; clear BK437; clear HI431; clear HB; have HO434 := n0_; have BK427 := n1_; have BK437 := n2_; have HI431 := n3_; have HB := n4_; clear n0_ n1_ n2_ n3_ n4_
 refine start_ (n := 6) (S := fun w' => w'.cell? ⟨gb437, 0, none⟩ = some (.slice Ao9 t432.length co9)) (ds := []) #[false, false, false, false, false, false] (by kernel_rfl) rfl rfl ((blk_cell BK437.out 0).trans rfl) (fun hHeld => ?_)
 generalize w13.drew = w14 at HO434 BK427 BK437 HI431 HB hHeld ⊢
 refine pure_ (i := 1) (N := some 11) (v := ?_) (a' := ?_) #[false, true, false, false, false, false] rfl rfl (by kernel_rfl) (fun _ _ _ h => h) (Or.inl ⟨by rfl, ?_⟩) ?_ ?_
 rotate_left
 ·intro w'
  go_simp
  with_reducible rfl
 rotate_left
 ·simp only [Act.put, List.setIfInBounds_toArray, List.set_cons_zero, List.set_cons_succ, i64_w, i32_w]
  rfl
 refine take_ (i := 0) (N := some 10) (v := ?_) (a' := ?_) #[true, true, false, false, false, false] rfl rfl (by kernel_rfl) (fun _ _ _ h => h) (Or.inl ⟨by rfl, ?_⟩) hHeld ?_ ?_
 rotate_left
 ·intro w' s0
  go_simp
  with_reducible rfl
 rotate_left
 ·simp only [Act.put, List.setIfInBounds_toArray, List.set_cons_zero, List.set_cons_succ, i64_w, i32_w]
  rfl
 refine one_ (i := 2) (N := some 12) #[true, true, true, false, false, false] rfl rfl (by kernel_rfl) (by decide) (fun K hK => ?_)
 refine Kd.R_lit_step (Kd.int .i64) _ 3 ?hg (N := 12) ?hd (xs := ([0, 1, 2, 7, (-1), 255, (-9223372036854775808)] : List Int)) (inner := [.int .i64 0, .int .i64 1, .int .i64 2, .int .i64 7, .int .i64 (-1), .int .i64 255, .int .i64 (-9223372036854775808)]) (ok := fun _ => True) (okp := fun _ => True) ?hr ?hp (fun _ hk => hk) trivial (Below.refl _ _) (Nat.le_refl _) (by simp) ?_; (case hd => rfl); (case hg => rfl); (case hr => first | (go_simp; done) | (go_simp; rfl)); (case hp => exact (Reps.one (show Kd.M (Kd.int .i64) _ _ _ 0 [.int .i64 0] from rfl) (Reps.one (show Kd.M (Kd.int .i64) _ _ _ 1 [.int .i64 1] from rfl) (Reps.one (show Kd.M (Kd.int .i64) _ _ _ 2 [.int .i64 2] from rfl) (Reps.one (show Kd.M (Kd.int .i64) _ _ _ 7 [.int .i64 7] from rfl) (Reps.one (show Kd.M (Kd.int .i64) _ _ _ (-1) [.int .i64 (-1)] from rfl) (Reps.one (show Kd.M (Kd.int .i64) _ _ _ 255 [.int .i64 255] from rfl) (Reps.one (show Kd.M (Kd.int .i64) _ _ _ (-9223372036854775808) [.int .i64 (-9223372036854775808)] from rfl) (Reps.none _ _)))))))))
 intro v439 w15 ho16 hb hg_ hnew_
 clear hg_ hnew_
 (first | rw [← Ny438.out] at ho16 | (simp only [Int.reduceToNat] at ho16; rw [← Ny438.out] at ho16))
 have n0_ := Aside0.mk (Kd.S_elder' (ks HO434.out) (Kd.R_base ho16) hb)
 have n1_ := Aside0.mk (Kd.R_lower ho16 (below_size (bi HB.out)))
 have n2_ := Aside0.mk (blk_below (g := gb427) (o := .cells #[.slice none 0 0] 29 (0, 0)) (kb BK427.out) hb)
 have n3_ := Aside0.mk (IsS107.below (si HI431.out) hb)
 have n4_ := Aside0.mk (blk_below (g := gb437) (o := .cells #[.slice Ao9 t432.length co9] 29 (0, 0)) (kb BK437.out) hb)
 have n5_ := Aside0.mk (below_step (bi HB.out) hb)
 clear HO434; clear BK427; clear HI431; clear BK437; clear HB; have HO434 := n0_; have HO440 := n1_; have BK427 := n2_; have HI431 := n3_; have BK437 := n4_; have HB := n5_; clear n0_ n1_ n2_ n3_ n4_ n5_; clear hb ho16
 obtain ⟨Ao17, co17, eo17⟩ := Kd.R_slice HO440.out
 (first | subst eo17 | (injection eo17 with f1_ f2_ f3_; have f4_ := f1_.symm; have f5_ := f3_.symm; clear f1_ f2_ f3_; subst f4_; subst f5_))
 refine hK.out _ _ ((blk_cell BK437.out 0).trans rfl) (fun hHeld => ?_)
 clear hK K
 refine norm_ (a' := ?_) ?_ ?_
 rotate_left
 ·show Act.put _ (some 12) _ = _
  simp only [Act.put, List.setIfInBounds_toArray, List.set_cons_zero, List.set_cons_succ, i64_w, i32_w]
  rfl
 refine one_ (i := 3) (N := some 13) #[true, true, true, true, false, false] rfl rfl (by kernel_rfl) (by decide) (fun K hK => ?_)
 refine goes_ Try.func70 (by kernel_rfl) rfl #[.pointer (some ⟨g431, 0, none⟩), .slice Ao17 y438.length co17] (by rfl) rfl rfl (by (try simp only [List.map_toArray, List.map_cons, List.map_nil]); first | done | rfl | (simp only [List.length_drop, List.length_take]; rfl)) ?_
 with_reducible refine (spec_l1PickInt.calls g431 t428 t435 t436 _ _ y438 t441 t442 t443 w _ ?side1 ?side2 ?side3 ?side4 ?side5 A4.out).mono ?_
 (case side1 => exact si HI431.out)
 (case side2 => exact bi HB.out)
 (case side3 => repeat (first | exact (Kd.R_reads' HO440.out).2.2 | (with_reducible refine Kd.C_alloc ?_ _) | (with_reducible refine Kd.C_drewN ?_ _) | (with_reducible refine Kd.C_drew ?_)))
 (case side4 => exact (Kd.R_reads' HO440.out).2.1)
 (case side5 => exact far_slice (IsS107.own_ne HI431.out HO440.out (by decide)))
 rintro e w18 ⟨rfl, hi, hb, hk⟩
 refine ⟨_, rfl, ?_⟩
 have n0_ := Aside0.mk (KeepBut.blk hk (g' := gb427) (o := .cells #[.slice none 0 0] 29 (0, 0)) (kb BK427.out) NB427_431.out (by simp))
 have n1_ := Aside0.mk (Kd.S_mono (Kd.S_keep (IsS107.apartS (show IsS107 w _ g431 t428 t435 t436 from si HI431.out) (ks HO434.out) (by decide)) hk (fun _ h => h.2)) (fun _ h => h.1))
 have n2_ := Aside0.mk (KeepBut.blk hk (g' := gb437) (o := .cells #[.slice Ao9 t432.length co9] 29 (0, 0)) (kb BK437.out) NB437_431.out (by simp))
 have n3_ := Aside0.mk (Kd.R_mono (Kd.R_keep (IsS107.apart (show IsS107 w _ g431 t428 t435 t436 from si HI431.out) (kr HO440.out) (by decide)) hk (fun _ h => h.2)) (fun _ h => h.1))
 have n4_ := Aside0.mk (hb)
 have n5_ := Aside0.mk (hi)
 clear BK427; clear HO434; clear BK437; clear HO440; clear HB; clear HI431; have BK427 := n0_; have HO434 := n1_; have BK437 := n2_; have HO440 := n3_; have HB := n4_; have HI431 := n5_; clear n0_ n1_ n2_ n3_ n4_ n5_; (try clear hb); (try clear hb2); (try clear hk); (try clear hi)
 refine hK.out _ _ ((blk_cell BK437.out 0).trans rfl) (fun hHeld => ?_)
 clear hK K
 refine norm_ (a' := ?_) ?_ ?_
 rotate_left
 ·show Act.put _ (some 13) _ = _
  simp only [Act.put, List.setIfInBounds_toArray, List.set_cons_zero, List.set_cons_succ, i64_w, i32_w]
  rfl
 refine one_ (i := 4) (N := none) #[true, true, true, true, true, false] rfl rfl (by kernel_rfl) (by decide) (fun K hK => ?_)
 have hs19 : w18.cell? ⟨gb427, 0, none⟩ = some (.slice none 0 0) := (blk_cell BK427.out 0).trans rfl
 have hfs19 := blk_frozen BK427.out 0
 have hns19_1 := NB437_427.out
 have hms19_1 := NB427_437.out
 refine skip_ (w1 := ?_) (by rfl) rfl ?_ ?_
 rotate_left
 ·go_simp
  rfl
 refine hK.out _ _ (((cell_far (p := ⟨gb427, _, none⟩) NB437_427.out _).trans (hHeld))) (fun hHeld => ?_)
 clear hK K
 refine pure_ (i := 5) (N := some 3) (v := ?_) (a' := ?_) #[true, true, true, true, true, true] rfl rfl (by kernel_rfl) (fun _ _ _ h => h) (Or.inl ⟨by rfl, ?_⟩) ?_ ?_
 rotate_left
 ·intro w'
  go_simp
  with_reducible rfl
 rotate_left
 ·simp only [Act.put, List.setIfInBounds_toArray, List.set_cons_zero, List.set_cons_succ, i64_w, i32_w]
  rfl
 refine done_ (by kernel_rfl) ?_
 try go_wp2
 refine bodyPost_ret (results_ct rfl _ _ gb427 29 #[.slice Ao9 t432.length co9] (0, 0) _ rfl (kt BK427.out) Try.underlying29 rfl (by kernel_rfl)) rfl ?_
 exact ⟨_, rt, ks (Kd.S_mono (Kd.S_far (p := ⟨gb427, 0, none⟩) (Kd.S_types HO434.out BK427.out (by decide)) (fun _ hk => hk.2) (.slice Ao9 t432.length co9)) (fun _ hk => trivial)), bi HB.out⟩

/-! ### impl_copyInts: function 72 -/
def impl_copyInts.f (l0 : List Int) : Option (List Int) := (some (([] : List Int) : List Int)).bind fun y444 => (if y444.length + l0.length < 17592186044416 then (some (y444 ++ l0)) else (none))
set_option maxHeartbeats 8000000 in
set_option maxRecDepth 100000 in
theorem impl_copyInts.calls (A0 : Option Addr) (c0 : Nat) (l0 : List Int) (r : List Int) (w : World) (hr0 : Kd.C (Kd.int .i64) w A0 l0.length l0) (hc0 : l0.length ≤ c0) (h : impl_copyInts.f l0 = some r) :
  Calls Try.prog 72 #[.slice A0 l0.length c0] w fun e w' => ∃ v0_ : Value, e = .returned (v0_) ∧ Kd.R (Kd.int .i64) 3 w' w.heap.size (fun _ => True) v0_ r ∧ Below w.heap.size w w' := by
 have HR0 := Aside0.mk hr0
 have HC0 := Aside0.mk hc0
 clear hr0 hc0
 have HB := Aside0.mk (Below.refl w.heap.size w)
 have H : ((some (([] : List Int) : List Int)).bind fun y444 => (if y444.length + l0.length < 17592186044416 then (some (y444 ++ l0)) else (none))) = some r := h
 clear h
 obtain ⟨y444, hy444⟩ : ∃ y_ : List Int, y_ = (([] : List Int)) := ⟨_, rfl⟩
 replace H : (if y444.length + l0.length < 17592186044416 then (some (y444 ++ l0)) else (none)) = some r := by first | (rw [hy444]; with_reducible exact H) | (have H2_ := (Option.bind_some _ _).symm.trans H; rw [hy444]; with_reducible exact H2_) | (have H2_ := (Option.bind_some _ _).symm.trans H; with_reducible exact H2_) | with_reducible exact H | (rw [hy444]; exact H) | exact H
 have Ny444 := Aside0.mk hy444
 clear hy444
 by_cases c2 : y444.length + l0.length < 17592186044416
 ·rw [if_pos c2] at H
  have LMc2 := Aside0.mk c2
  clear c2
  obtain ⟨y447, hy447⟩ : ∃ y_ : List Int, y_ = (y444 ++ l0) := ⟨_, rfl⟩
  replace H : (some y447) = some r := by first | (rw [hy447]; with_reducible exact H) | (have H2_ := (Option.bind_some _ _).symm.trans H; rw [hy447]; with_reducible exact H2_) | (have H2_ := (Option.bind_some _ _).symm.trans H; with_reducible exact H2_) | with_reducible exact H | (rw [hy447]; exact H) | exact H
  have Ny447 := Aside0.mk hy447
  clear hy447
  obtain rfl := Option.some.inj H
  go_enter Try.func72, Try.ntmps72
  go_wp2_with (first | ((with_reducible refine gate_dst (N := 3) rfl ?_); refine Kd.R_lit (Kd.int .i64) _ 3 ?hg (N := 3) ?hd (xs := ([] : List Int)) (inner := []) (ok := fun _ => True) (okp := fun _ => True) ?hr ?hp (fun _ hk => hk) trivial (Below.refl _ _) (Nat.le_refl _) (by simp) ?_; (case hd => rfl); (case hg => rfl); (case hr => first | (go_simp; done) | (go_simp; rfl)); (case hp => exact (Reps.none _ _)); intro v445 w3 ho4 hb hg_ hnew_; clear hg_ hnew_; (first | rw [← Ny444.out] at ho4 | (simp only [Int.reduceToNat] at ho4; rw [← Ny444.out] at ho4)); have n0_ := Aside0.mk (Kd.R_lower ho4 (below_size (bw HB.out))); have n1_ := Aside0.mk (below_step (bw HB.out) hb); clear HB; have HO446 := n0_; have HB := n1_; clear n0_ n1_; clear hb ho4) | ((with_reducible refine gate_builtin (b := .append) (xs := #[.tmp 3, .tmp 4]) rfl ?_); at_builtin; refine Kd.R_append_rows (Kd.int .i64) (w0 := w) w.heap.size rfl (.tmp 3) (.tmp 4) 30 3 (.int .i64 0) 8 rfl Try.underlying30 info3 rfl (by decide) (by omega) v445 y444 l0 _ _ _ (fun _ => True) (fun _ => False) rfl rfl ?aO ?aR (fun _ _ h => h) (fun _ h => h.elim) ?aF ?aB ?aS ?aL ?_; (case aR => exact kc (Kd.C_below HR0.out HB.out)); (case aB => exact (bw HB.out)); (case aF => exact (fun _ _ => trivial)); (case aO => exact (kr HO446.out)); (case aS => exact (below_size (bw HB.out))); (case aL => have := LMc2.out; omega); intro v448 w5 ho hb hg hat; rw [← Ny447.out] at ho; have n0_ := Aside0.mk (hb); have n1_ := Aside0.mk (ho); clear HB; clear HO446; have HB := n0_; have HO449 := n1_; clear n0_ n1_; clear ho hb hg hat))
  go_ret
  exact ⟨_, rt, kr HO449.out, bw HB.out⟩
 ·rw [if_neg c2] at H
  exact absurd H (by simp)

/-! ### impl_modulo: function 73 -/
def impl_modulo.f (a0 : Int) (a1 : Int) : Option (Int) := if a1 = 0 then (none) else (some (Int.tmod (wrap64 ((Int.tmod a0 a1) + a1)) a1))
set_option maxHeartbeats 8000000 in
set_option maxRecDepth 100000 in
theorem impl_modulo.calls (a0 : Int) (a1 : Int) (r : Int) (w : World) (h : impl_modulo.f a0 a1 = some r) :
  Calls Try.prog 73 #[.int .i64 a0, .int .i64 a1] w fun e w' => e = .returned (.int .i64 r) ∧ Drawn0 w w' := by
 have H : (if a1 = 0 then (none) else (some (Int.tmod (wrap64 ((Int.tmod a0 a1) + a1)) a1))) = some r := h
 clear h
 by_cases c3 : a1 = 0
 ·rw [if_pos c3] at H
  exact absurd H (by simp)
 ·rw [if_neg c3] at H
  have c3b0 : (a1 == 0) = false := beq_eq_false_iff_ne.mpr c3
  have c3b1 : (a1 != 0) = true := bne_iff_ne.mpr c3
  obtain rfl := Option.some.inj H
  go_enter Try.func73, Try.ntmps73
  go_wp2
  go_ret
  exact ⟨by first | rfl | (simp; done) | (simp [*]; done), by repeat (first | exact Drawn0.refl _ | apply Drawn0.step)⟩

/-! ### impl_BankOf: function 27 -/
def impl_BankOf.f (k : Nat) (l0_0 : List (List Int)) (a1 : Int) : Option (List Int) := (impl_ImageOk.f k l0_0).bind fun t451 => (if t451 = true then ((impl_modulo.f a1 (l0_0.length : Int)).bind fun t452 => (if 0 ≤ t452 then (if t452 < (l0_0.length : Int) then ((impl_copyInts.f (rd_L3 l0_0 t452)).bind fun t454 => (some t454)) else (none)) else (none))) else (some ([] : List Int)))
theorem impl_BankOf.mono : ∀ a0 a1 k, LeO (impl_BankOf.f k a0 a1) (impl_BankOf.f (k + 1) a0 a1) := by
 intro a0 a1 k
 unfold impl_BankOf.f
 repeat' first
   | (with_reducible exact impl_ImageOk.mono _ _)
   | (with_reducible exact LeO.refl _)
   | (with_reducible exact LeO.none _)
   | (with_reducible refine LeO.ite ?_ ?_)
   | (with_reducible refine LeO.bind ?_ (fun _ => ?_))
   | exact impl_ImageOk.mono _ _
   | exact LeO.none _
   | refine LeO.ite ?_ ?_
   | refine LeO.bind ?_ (fun _ => ?_)
def impl_BankOf.T3 : Bool × List (List Nat × List Nat) := (true, [([], []), ([0], [0]), ([], []), ([], []), ([3], [3]), ([4], [4]), ([2, 5], [2, 5]), ([1, 6], [1, 6]), ([7], [7]), ([8, 6], [8]), ([9, 9, 0, 1, 2, 3, 4, 5, 6, 7, 8, 9], [9])])
def impl_BankOf.B3 : List Nat := [0, 1, 0, 0, 8, 24, 60, 127, 255, 511, 1023]
theorem impl_BankOf.tab3 : rtab .any (opsOf Try.f27 3) = impl_BankOf.T3 := by kernel_rfl
theorem impl_BankOf.bits3 : waitsOk impl_BankOf.T3.2 impl_BankOf.B3 = true := by kernel_rfl
set_option maxHeartbeats 8000000 in
set_option maxRecDepth 100000 in
theorem impl_BankOf.calls (k : Nat) (A0_0 : Option Addr) (c0_0 : Nat) (l0_0 : List (List Int)) (a1 : Int) (r : List Int) (w : World) (hr0_0 : Kd.C (Kd.slice 3 (Kd.int .i64)) w A0_0 l0_0.length l0_0) (hc0_0 : l0_0.length ≤ c0_0) (h : impl_BankOf.f k l0_0 a1 = some r) :
  Calls Try.prog 27 #[.agg #[.slice A0_0 l0_0.length c0_0], .int .i64 a1] w fun e w' => ∃ v0_ : Value, e = .returned (v0_) ∧ Kd.R (Kd.int .i64) 3 w' w.heap.size (fun _ => True) v0_ r ∧ Below w.heap.size w w' := by
 have hu29 := Try.underlying29
 have HR0_0 := Aside0.mk hr0_0
 have HC0_0 := Aside0.mk hc0_0
 clear hr0_0 hc0_0
 have HB := Aside0.mk (Below.refl w.heap.size w)
 have H : ((impl_ImageOk.f k l0_0).bind fun t451 => (if t451 = true then ((impl_modulo.f a1 (l0_0.length : Int)).bind fun t452 => (if 0 ≤ t452 then (if t452 < (l0_0.length : Int) then ((impl_copyInts.f (rd_L3 l0_0 t452)).bind fun t454 => (some t454)) else (none)) else (none))) else (some ([] : List Int)))) = some r := h
 clear h
 replace H := Option.bind_eq_some_iff.mp H
 obtain ⟨t451, A30, H⟩ := H
 replace H : (if t451 = true then ((impl_modulo.f a1 (l0_0.length : Int)).bind fun t452 => (if 0 ≤ t452 then (if t452 < (l0_0.length : Int) then ((impl_copyInts.f (rd_L3 l0_0 t452)).bind fun t454 => (some t454)) else (none)) else (none))) else (some ([] : List Int))) = some r := H
 have A3 := Aside0.mk A30
 clear A30
 by_cases c4 : t451 = true
 ·subst c4
  have H1 : ((impl_modulo.f a1 (l0_0.length : Int)).bind fun t452 => (if 0 ≤ t452 then (if t452 < (l0_0.length : Int) then ((impl_copyInts.f (rd_L3 l0_0 t452)).bind fun t454 => (some t454)) else (none)) else (none))) = some r := by rw [if_pos rfl] at H; exact H
  clear H
  have H := H1
  clear H1
  replace H := Option.bind_eq_some_iff.mp H
  obtain ⟨t452, A50, H⟩ := H
  replace H : (if 0 ≤ t452 then (if t452 < (l0_0.length : Int) then ((impl_copyInts.f (rd_L3 l0_0 t452)).bind fun t454 => (some t454)) else (none)) else (none)) = some r := H
  have A5 := Aside0.mk A50
  clear A50
  by_cases c6 : 0 ≤ t452
  ·rw [if_pos c6] at H
   have c6b0 : decide (0 ≤ t452) = true := decide_eq_true c6
   clear c6
   by_cases c7 : t452 < (l0_0.length : Int)
   ·rw [if_pos c7] at H
    have c7b0 : decide (t452 < (l0_0.length : Int)) = true := decide_eq_true c7
    clear c7
    replace H := Option.bind_eq_some_iff.mp H
    obtain ⟨t454, A80, H⟩ := H
    replace H : (some t454) = some r := H
    have A8 := Aside0.mk A80
    clear A80
    obtain rfl := Option.some.inj H
    go_enter Try.func27, Try.ntmps27
    try go_wp2_with (first | ((with_reducible refine gate_dst (N := 2) rfl ?_); refine bx (N := 2) (cs := #[.slice A0_0 l0_0.length c0_0]) (t := 29) ?_; intro gb450 hg w9 hbox hb; have n0_ := Aside0.mk (below_step (bw HB.out) hb); have n1_ := Aside0.mk (hbox); have n2_ := Aside0.mk ((gs hg (bw HB.out))); have n3_ := Aside0.mk ((gs hg (bw HB.out))); clear HB; have HB := n0_; have BK450 := n1_; have GW450 := n2_; have GE450 := n3_; clear n0_ n1_ n2_ n3_; clear hb hbox hg; have hcz10_0 : w9.cell? ⟨gb450, 0, none⟩ = some (.slice A0_0 l0_0.length c0_0) := (blk_cell BK450.out 0).trans rfl; have hfz10_0 := blk_frozen BK450.out 0) | ((with_reducible refine gate_callee (f := 19) rfl ?_); refine goesM_ (some 6) rfl rfl Try.func19 #[.agg #[.slice A0_0 l0_0.length c0_0]] ?_; (with_reducible refine (impl_ImageOk.calls k _ _ l0_0 true _ ?side1 ?side2 A3.out).mono ?_); (case side1 => exact kc (Kd.C_below HR0_0.out HB.out)); (case side2 => exact HC0_0.out); rintro e w11 ⟨rfl, hb⟩; refine ⟨_, rfl, ?_⟩; have n0_ := Aside0.mk (blk_below (g := gb450) (o := .cells #[.slice A0_0 l0_0.length c0_0] 29 (0, 0)) (kb BK450.out) hb); have n1_ := Aside0.mk (below_step (bw HB.out) hb); clear BK450; clear HB; have BK450 := n0_; have HB := n1_; clear n0_ n1_; (try clear hb); (try clear hb2); (try clear hk); (try clear hi)))
    have n0_ := Aside0.mk (blk_drew BK450.out)
    have n1_ := Aside0.mk (below_drew1 HB.out)
    clear BK450; clear HB; have BK450 := n0_; have HB := n1_; clear n0_ n1_
    have p453 : 0 ≤ (t452 : Int) := dt
    have q453 : t452 < (l0_0.length : Int) := dt
    obtain ⟨ad453, A453_0, c453_0, e453, hx453_0, hl453_0, hi453_0⟩ := at_L3 HR0_0.out t452 p453 q453
    have hw453_0 := hx453_0
    cases e453
    replace hx453_0 := (HB.out.cell (World.block_lt_of_cell? w _ hx453_0)).trans hx453_0
    have HR453_0 := Aside0.mk hi453_0
    have HC453_0 := Aside0.mk hl453_0
    clear hi453_0 hl453_0
    replace p453 := eq_true p453
    replace q453 := eq_true q453
    refine start_ (n := 11) (S := fun w' => w'.cell? ⟨gb450, 0, none⟩ = some (.slice (some ad453) l0_0.length c0_0) ∧ w'.cell? (ad453.add (t452).toNat) = some (.slice A453_0 (rd_L3 l0_0 t452).length c453_0)) (ds := []) #[false, false, false, false, false, false, false, false, false, false, false] (by kernel_rfl) rfl rfl ⟨(blk_cell BK450.out 0).trans rfl, ((HB.out.cell (World.block_lt_of_cell? w _ hw453_0)).trans hw453_0)⟩ (fun hHeld => ?_); refine with_tabW impl_BankOf.tab3 impl_BankOf.bits3 (fun HT_ HW_ => ?_)
    generalize w11.drew = w12 at BK450 HB HR453_0 hx453_0 hHeld ⊢
    refine pure_ (i := 0) (N := some 8) (v := ?_) (a' := ?_) #[true, false, false, false, false, false, false, false, false, false, false] rfl rfl (any_of HT_.out (by kernel_rfl)) (fun _ _ _ h => h) (Or.inl ⟨by rfl, ?_⟩) ?_ ?_
    rotate_left
    ·intro w'
     go_simp
     with_reducible rfl
    rotate_left
    ·simp only [Act.put, List.setIfInBounds_toArray, List.set_cons_zero, List.set_cons_succ, i64_w, i32_w]
     rfl
    refine pure_ (i := 2) (N := some 10) (v := ?_) (a' := ?_) #[true, false, true, false, false, false, false, false, false, false, false] rfl rfl (any_of HT_.out (by kernel_rfl)) (fun _ _ _ h => h) (Or.inl ⟨by rfl, ?_⟩) ?_ ?_
    rotate_left
    ·intro w'
     go_simp
     with_reducible rfl
    rotate_left
    ·simp only [Act.put, List.setIfInBounds_toArray, List.set_cons_zero, List.set_cons_succ, i64_w, i32_w]
     rfl
    refine pure_ (i := 3) (N := some 11) (v := ?_) (a' := ?_) #[true, false, true, true, false, false, false, false, false, false, false] rfl rfl (any_of HT_.out (by kernel_rfl)) (fun _ _ _ h => h) (Or.inl ⟨by rfl, ?_⟩) ?_ ?_
    rotate_left
    ·intro w'
     go_simp
     with_reducible rfl
    rotate_left
    ·simp only [Act.put, List.setIfInBounds_toArray, List.set_cons_zero, List.set_cons_succ, i64_w, i32_w]
     rfl
    refine take_ (i := 1) (N := some 9) (v := ?_) (a' := ?_) #[true, true, true, true, false, false, false, false, false, false, false] rfl rfl (take_ofW HT_.out HW_.out (by kernel_rfl)) (fun _ _ _ h => h) (Or.inl ⟨by rfl, ?_⟩) hHeld ?_ ?_
    rotate_left
    ·rintro w' ⟨s0, s1⟩
     go_simp
     with_reducible rfl
    rotate_left
    ·simp only [Act.put, List.setIfInBounds_toArray, List.set_cons_zero, List.set_cons_succ, i64_w, i32_w]
     rfl
    refine take_ (i := 4) (N := some 12) (v := ?_) (a' := ?_) #[true, true, true, true, true, false, false, false, false, false, false] rfl rfl (take_ofW HT_.out HW_.out (by kernel_rfl)) (fun _ _ _ h => h) (Or.inl ⟨by rfl, ?_⟩) hHeld ?_ ?_
    rotate_left
    ·rintro w' ⟨s0, s1⟩
     go_simp
     with_reducible rfl
    rotate_left
    ·simp only [Act.put, List.setIfInBounds_toArray, List.set_cons_zero, List.set_cons_succ, i64_w, i32_w]
     rfl
    refine pure_ (i := 5) (N := some 13) (v := ?_) (a' := ?_) #[true, true, true, true, true, true, false, false, false, false, false] rfl rfl (any_of HT_.out (by kernel_rfl)) (fun _ _ _ h => h) (Or.inl ⟨by rfl, ?_⟩) ?_ ?_
    rotate_left
    ·intro w'
     go_simp
     with_reducible rfl
    rotate_left
    ·simp only [Act.put, List.setIfInBounds_toArray, List.set_cons_zero, List.set_cons_succ, i64_w, i32_w]
     rfl
    refine one_ (i := 6) (N := some 14) #[true, true, true, true, true, true, true, false, false, false, false] rfl rfl (one_of HT_.out (by kernel_rfl)) (by decide) (fun K hK => ?_)
    refine goes_ Try.func73 (by kernel_rfl) rfl #[.int .i64 a1, .int .i64 (l0_0.length : Int)] (by rfl) rfl rfl (by (try simp only [List.map_toArray, List.map_cons, List.map_nil]); first | done | rfl | (simp only [List.length_drop, List.length_take]; rfl)) ?_
    with_reducible refine (impl_modulo.calls a1 (l0_0.length : Int) t452 _ A5.out).mono ?_
    rintro e w' ⟨rfl, ⟨nd, rfl⟩⟩
    refine ⟨_, rfl, ?_⟩
    refine hK.out _ _ ⟨(blk_cell BK450.out 0).trans rfl, ((HB.out.cell (World.block_lt_of_cell? w _ hw453_0)).trans hw453_0)⟩ (fun hHeld => ?_)
    clear hK K
    refine norm_ (a' := ?_) ?_ ?_
    rotate_left
    ·show Act.put _ (some 14) _ = _
     simp only [Act.put, List.setIfInBounds_toArray, List.set_cons_zero, List.set_cons_succ, i64_w, i32_w]
     rfl
    refine pure_ (i := 7) (N := some 15) (v := ?_) (a' := ?_) #[true, true, true, true, true, true, true, true, false, false, false] rfl rfl (any_of HT_.out (by kernel_rfl)) (fun _ _ _ h => h) (Or.inl ⟨by rfl, ?_⟩) ?_ ?_
    rotate_left
    ·intro w'
     go_simp
     with_reducible rfl
    rotate_left
    ·simp only [Act.put, List.setIfInBounds_toArray, List.set_cons_zero, List.set_cons_succ, i64_w, i32_w]
     rfl
    refine take_ (i := 8) (N := some 16) (v := ?_) (a' := ?_) #[true, true, true, true, true, true, true, true, true, false, false] rfl rfl (take_ofW HT_.out HW_.out (by kernel_rfl)) (fun _ _ _ h => h) (Or.inl ⟨by rfl, ?_⟩) hHeld ?_ ?_
    rotate_left
    ·rintro w' ⟨s0, s1⟩
     go_simp
     with_reducible rfl
    rotate_left
    ·simp only [Act.put, List.setIfInBounds_toArray, List.set_cons_zero, List.set_cons_succ, i64_w, i32_w]
     rfl
    refine one_ (i := 9) (N := some 17) #[true, true, true, true, true, true, true, true, true, true, false] rfl rfl (one_of HT_.out (by kernel_rfl)) (by decide) (fun K hK => ?_)
    refine goes_ Try.func72 (by kernel_rfl) rfl #[.slice A453_0 (rd_L3 l0_0 t452).length c453_0] (by rfl) rfl rfl (by (try simp only [List.map_toArray, List.map_cons, List.map_nil]); first | done | rfl | (simp only [List.length_drop, List.length_take]; rfl)) ?_
    with_reducible refine (impl_copyInts.calls _ _ (rd_L3 l0_0 t452) t454 _ ?side1 ?side2 A8.out).mono ?_
    (case side1 => exact kc (Kd.C_below HR453_0.out (bw HB.out)))
    (case side2 => exact HC453_0.out)
    rintro e w13 ⟨v455, rfl, ho0, hb⟩
    refine ⟨_, rfl, ?_⟩
    have n0_ := Aside0.mk (Kd.R_lower ho0 (below_size (bw HB.out)))
    have n1_ := Aside0.mk (blk_below (g := gb450) (o := .cells #[.slice (some ad453) l0_0.length c0_0] 29 (0, 0)) (kb BK450.out) hb)
    have n2_ := Aside0.mk (below_step (bw HB.out) hb)
    clear BK450; clear HB; have HO456 := n0_; have BK450 := n1_; have HB := n2_; clear n0_ n1_ n2_; (try clear hb); (try clear hb2); (try clear hk); (try clear hi); (try clear ho0)
    refine hK.out _ _ ⟨(blk_cell BK450.out 0).trans rfl, ((HB.out.cell (World.block_lt_of_cell? w _ hw453_0)).trans hw453_0)⟩ (fun hHeld => ?_)
    clear hK K
    refine norm_ (a' := ?_) ?_ ?_
    rotate_left
    ·show Act.put _ (some 17) _ = _
     simp only [Act.put, List.setIfInBounds_toArray, List.set_cons_zero, List.set_cons_succ, i64_w, i32_w]
     rfl
    refine pure_ (i := 10) (N := some 4) (v := ?_) (a' := ?_) #[true, true, true, true, true, true, true, true, true, true, true] rfl rfl (any_of HT_.out (by kernel_rfl)) (fun _ _ _ h => h) (Or.inl ⟨by rfl, ?_⟩) ?_ ?_
    rotate_left
    ·intro w'
     go_simp
     with_reducible rfl
    rotate_left
    ·simp only [Act.put, List.setIfInBounds_toArray, List.set_cons_zero, List.set_cons_succ, i64_w, i32_w]
     rfl
    refine done_ (done_of HT_.out (by kernel_rfl)) ?_
    try go_wp2
    go_ret
    exact ⟨_, rt, kr HO456.out, bw HB.out⟩
   ·rw [if_neg c7] at H
    exact absurd H (by simp)
  ·rw [if_neg c6] at H
   exact absurd H (by simp)
 ·replace c4 := Bool.eq_false_iff.mpr c4
  subst c4
  have H1 : (some ([] : List Int)) = some r := by rw [if_neg (show ¬ (false = true) by decide)] at H; exact H
  clear H
  have H := H1
  clear H1
  obtain rfl := Option.some.inj H
  go_enter Try.func27, Try.ntmps27
  go_wp2_with (first | ((with_reducible refine gate_dst (N := 2) rfl ?_); refine bx (N := 2) (cs := #[.slice A0_0 l0_0.length c0_0]) (t := 29) ?_; intro gb450 hg w14 hbox hb; have n0_ := Aside0.mk (below_step (bw HB.out) hb); have n1_ := Aside0.mk (hbox); have n2_ := Aside0.mk ((gs hg (bw HB.out))); have n3_ := Aside0.mk ((gs hg (bw HB.out))); clear HB; have HB := n0_; have BK450 := n1_; have GW450 := n2_; have GE450 := n3_; clear n0_ n1_ n2_ n3_; clear hb hbox hg; have hcz15_0 : w14.cell? ⟨gb450, 0, none⟩ = some (.slice A0_0 l0_0.length c0_0) := (blk_cell BK450.out 0).trans rfl; have hfz15_0 := blk_frozen BK450.out 0) | ((with_reducible refine gate_callee (f := 19) rfl ?_); refine goesM_ (some 6) rfl rfl Try.func19 #[.agg #[.slice A0_0 l0_0.length c0_0]] ?_; (with_reducible refine (impl_ImageOk.calls k _ _ l0_0 false _ ?side1 ?side2 A3.out).mono ?_); (case side1 => exact kc (Kd.C_below HR0_0.out HB.out)); (case side2 => exact HC0_0.out); rintro e w16 ⟨rfl, hb⟩; refine ⟨_, rfl, ?_⟩; have n0_ := Aside0.mk (blk_below (g := gb450) (o := .cells #[.slice A0_0 l0_0.length c0_0] 29 (0, 0)) (kb BK450.out) hb); have n1_ := Aside0.mk (below_step (bw HB.out) hb); clear BK450; clear HB; have BK450 := n0_; have HB := n1_; clear n0_ n1_; (try clear hb); (try clear hb2); (try clear hk); (try clear hi)))
  go_ret
  exact ⟨_, rt, by first | exact Kd.R_nil _ _ _ _ _ | exact Kd.N_nil _ _ _ _ _ | exact Kd.V_nil _ _ _ _ _ | exact Kd.Q_nil _ _ _ _ _ | exact Kd.S_nil _ _ _ _ _, bw HB.out⟩

/-! ### spec_l2Bank: function 74 -/
def spec_l2Bank.f (l0_0 : List (List Int)) (a1 : Int) : Option (Int) := if (l0_0.length : Int) = 0 then (none) else (some (Int.tmod (wrap64 ((Int.tmod a1 (l0_0.length : Int)) + (l0_0.length : Int))) (l0_0.length : Int)))
set_option maxHeartbeats 8000000 in
set_option maxRecDepth 100000 in
theorem spec_l2Bank.calls (A0_0 : Option Addr) (c0_0 : Nat) (l0_0 : List (List Int)) (a1 : Int) (r : Int) (w : World) (hr0_0 : Kd.C (Kd.slice 3 (Kd.int .i64)) w A0_0 l0_0.length l0_0) (hc0_0 : l0_0.length ≤ c0_0) (h : spec_l2Bank.f l0_0 a1 = some r) :
  Calls Try.prog 74 #[.agg #[.slice A0_0 l0_0.length c0_0], .int .i64 a1] w fun e w' => e = .returned (.int .i64 r) ∧ Below w.heap.size w w' := by
 have hu29 := Try.underlying29
 have HR0_0 := Aside0.mk hr0_0
 have HC0_0 := Aside0.mk hc0_0
 clear hr0_0 hc0_0
 have HB := Aside0.mk (Below.refl w.heap.size w)
 have H : (if (l0_0.length : Int) = 0 then (none) else (some (Int.tmod (wrap64 ((Int.tmod a1 (l0_0.length : Int)) + (l0_0.length : Int))) (l0_0.length : Int)))) = some r := h
 clear h
 by_cases c3 : (l0_0.length : Int) = 0
 ·rw [if_pos c3] at H
  exact absurd H (by simp)
 ·rw [if_neg c3] at H
  have c3b0 : ((l0_0.length : Int) == 0) = false := beq_eq_false_iff_ne.mpr c3
  have c3b1 : ((l0_0.length : Int) != 0) = true := bne_iff_ne.mpr c3
  have c3b2 : ¬ (l0_0 = []) := fun h_ => c3 (by rw [h_]; rfl)
  obtain rfl := Option.some.inj H
  go_enter Try.func74, Try.ntmps74
  go_wp2_with (first | ((with_reducible refine gate_dst (N := 2) rfl ?_); refine bx (N := 2) (cs := #[.slice A0_0 l0_0.length c0_0]) (t := 29) ?_; intro gb457 hg w4 hbox hb; have n0_ := Aside0.mk (below_step (bw HB.out) hb); have n1_ := Aside0.mk (hbox); have n2_ := Aside0.mk ((gs hg (bw HB.out))); have n3_ := Aside0.mk ((gs hg (bw HB.out))); clear HB; have HB := n0_; have BK457 := n1_; have GW457 := n2_; have GE457 := n3_; clear n0_ n1_ n2_ n3_; clear hb hbox hg; have hcz5_0 : w4.cell? ⟨gb457, 0, none⟩ = some (.slice A0_0 l0_0.length c0_0) := (blk_cell BK457.out 0).trans rfl; have hfz5_0 := blk_frozen BK457.out 0))
  go_ret
  exact ⟨rt, bw HB.out⟩

/-! ### spec_BankOf: function 28 -/
def spec_BankOf.f (k : Nat) (l0_0 : List (List Int)) (a1 : Int) : Option (List Int) := (spec_ImageOk.f k l0_0).bind fun t459 => (if t459 = true then ((some (([] : List Int) : List Int)).bind fun y460 => ((spec_l2Bank.f l0_0 a1).bind fun t463 => (if 0 ≤ t463 then (if t463 < (l0_0.length : Int) then (if y460.length + (rd_L3 l0_0 t463).length < 17592186044416 then (some (y460 ++ (rd_L3 l0_0 t463))) else (none)) else (none)) else (none)))) else (some (([] : List Int))))
theorem spec_BankOf.mono : ∀ a0 a1 k, LeO (spec_BankOf.f k a0 a1) (spec_BankOf.f (k + 1) a0 a1) := by
 intro a0 a1 k
 unfold spec_BankOf.f
 repeat' first
   | (with_reducible exact spec_ImageOk.mono _ _)
   | (with_reducible exact LeO.refl _)
   | (with_reducible exact LeO.none _)
   | (with_reducible refine LeO.ite ?_ ?_)
   | (with_reducible refine LeO.bind ?_ (fun _ => ?_))
   | exact spec_ImageOk.mono _ _
   | exact LeO.none _
   | refine LeO.ite ?_ ?_
   | refine LeO.bind ?_ (fun _ => ?_)
def spec_BankOf.T3 : Bool × List (List Nat × List Nat) := (true, [([], []), ([], []), ([1], [1]), ([], []), ([], []), ([3, 4], [3, 4]), ([2, 5], [2, 5]), ([6], [6]), ([0, 7, 5], [0, 7]), ([8, 8, 0, 1, 2, 3, 4, 5, 6, 7, 8], [8])])
def spec_BankOf.B3 : List Nat := [0, 0, 2, 0, 0, 24, 62, 126, 255, 511]
theorem spec_BankOf.tab3 : rtab .any (opsOf Try.f28 3) = spec_BankOf.T3 := by kernel_rfl
theorem spec_BankOf.bits3 : waitsOk spec_BankOf.T3.2 spec_BankOf.B3 = true := by kernel_rfl
set_option maxHeartbeats 8000000 in
set_option maxRecDepth 100000 in
theorem spec_BankOf.calls (k : Nat) (A0_0 : Option Addr) (c0_0 : Nat) (l0_0 : List (List Int)) (a1 : Int) (r : List Int) (w : World) (hr0_0 : Kd.C (Kd.slice 3 (Kd.int .i64)) w A0_0 l0_0.length l0_0) (hc0_0 : l0_0.length ≤ c0_0) (h : spec_BankOf.f k l0_0 a1 = some r) :
  Calls Try.prog 28 #[.agg #[.slice A0_0 l0_0.length c0_0], .int .i64 a1] w fun e w' => ∃ v0_ : Value, e = .returned (v0_) ∧ Kd.R (Kd.int .i64) 3 w' w.heap.size (fun _ => True) v0_ r ∧ Below w.heap.size w w' := by
 have hu29 := Try.underlying29
 have HR0_0 := Aside0.mk hr0_0
 have HC0_0 := Aside0.mk hc0_0
 clear hr0_0 hc0_0
 have HB := Aside0.mk (Below.refl w.heap.size w)
 have H : ((spec_ImageOk.f k l0_0).bind fun t459 => (if t459 = true then ((some (([] : List Int) : List Int)).bind fun y460 => ((spec_l2Bank.f l0_0 a1).bind fun t463 => (if 0 ≤ t463 then (if t463 < (l0_0.length : Int) then (if y460.length + (rd_L3 l0_0 t463).length < 17592186044416 then (some (y460 ++ (rd_L3 l0_0 t463))) else (none)) else (none)) else (none)))) else (some (([] : List Int))))) = some r := h
 clear h
 replace H := Option.bind_eq_some_iff.mp H
 obtain ⟨t459, A30, H⟩ := H
 replace H : (if t459 = true then ((some (([] : List Int) : List Int)).bind fun y460 => ((spec_l2Bank.f l0_0 a1).bind fun t463 => (if 0 ≤ t463 then (if t463 < (l0_0.length : Int) then (if y460.length + (rd_L3 l0_0 t463).length < 17592186044416 then (some (y460 ++ (rd_L3 l0_0 t463))) else (none)) else (none)) else (none)))) else (some (([] : List Int)))) = some r := H
 have A3 := Aside0.mk A30
 clear A30
 by_cases c4 : t459 = true
 ·subst c4
  have H1 : ((some (([] : List Int) : List Int)).bind fun y460 => ((spec_l2Bank.f l0_0 a1).bind fun t463 => (if 0 ≤ t463 then (if t463 < (l0_0.length : Int) then (if y460.length + (rd_L3 l0_0 t463).length < 17592186044416 then (some (y460 ++ (rd_L3 l0_0 t463))) else (none)) else (none)) else (none)))) = some r := by rw [if_pos rfl] at H; exact H
  clear H
  have H := H1
  clear H1
  obtain ⟨y460, hy460⟩ : ∃ y_ : List Int, y_ = (([] : List Int)) := ⟨_, rfl⟩
  replace H : ((spec_l2Bank.f l0_0 a1).bind fun t463 => (if 0 ≤ t463 then (if t463 < (l0_0.length : Int) then (if y460.length + (rd_L3 l0_0 t463).length < 17592186044416 then (some (y460 ++ (rd_L3 l0_0 t463))) else (none)) else (none)) else (none))) = some r := by first | (rw [hy460]; with_reducible exact H) | (have H2_ := (Option.bind_some _ _).symm.trans H; rw [hy460]; with_reducible exact H2_) | (have H2_ := (Option.bind_some _ _).symm.trans H; with_reducible exact H2_) | with_reducible exact H | (rw [hy460]; exact H) | exact H
  have Ny460 := Aside0.mk hy460
  clear hy460
  replace H := Option.bind_eq_some_iff.mp H
  obtain ⟨t463, A50, H⟩ := H
  replace H : (if 0 ≤ t463 then (if t463 < (l0_0.length : Int) then (if y460.length + (rd_L3 l0_0 t463).length < 17592186044416 then (some (y460 ++ (rd_L3 l0_0 t463))) else (none)) else (none)) else (none)) = some r := H
  have A5 := Aside0.mk A50
  clear A50
  by_cases c6 : 0 ≤ t463
  ·rw [if_pos c6] at H
   have c6b0 : decide (0 ≤ t463) = true := decide_eq_true c6
   clear c6
   by_cases c7 : t463 < (l0_0.length : Int)
   ·rw [if_pos c7] at H
    have c7b0 : decide (t463 < (l0_0.length : Int)) = true := decide_eq_true c7
    clear c7
    by_cases c8 : y460.length + (rd_L3 l0_0 t463).length < 17592186044416
    ·rw [if_pos c8] at H
     have LMc8 := Aside0.mk c8
     clear c8
     obtain ⟨y465, hy465⟩ : ∃ y_ : List Int, y_ = (y460 ++ (rd_L3 l0_0 t463)) := ⟨_, rfl⟩
     replace H : (some y465) = some r := by first | (rw [hy465]; with_reducible exact H) | (have H2_ := (Option.bind_some _ _).symm.trans H; rw [hy465]; with_reducible exact H2_) | (have H2_ := (Option.bind_some _ _).symm.trans H; with_reducible exact H2_) | with_reducible exact H | (rw [hy465]; exact H) | exact H
     have Ny465 := Aside0.mk hy465
     clear hy465
     obtain rfl := Option.some.inj H
     go_enter Try.func28, Try.ntmps28
     try go_wp2_with (first | ((with_reducible refine gate_dst (N := 2) rfl ?_); refine bx (N := 2) (cs := #[.slice A0_0 l0_0.length c0_0]) (t := 29) ?_; intro gb458 hg w9 hbox hb; have n0_ := Aside0.mk (below_step (bw HB.out) hb); have n1_ := Aside0.mk (hbox); have n2_ := Aside0.mk ((gs hg (bw HB.out))); have n3_ := Aside0.mk ((gs hg (bw HB.out))); clear HB; have HB := n0_; have BK458 := n1_; have GW458 := n2_; have GE458 := n3_; clear n0_ n1_ n2_ n3_; clear hb hbox hg; have hcz10_0 : w9.cell? ⟨gb458, 0, none⟩ = some (.slice A0_0 l0_0.length c0_0) := (blk_cell BK458.out 0).trans rfl; have hfz10_0 := blk_frozen BK458.out 0) | ((with_reducible refine gate_callee (f := 20) rfl ?_); refine goesM_ (some 6) rfl rfl Try.func20 #[.agg #[.slice A0_0 l0_0.length c0_0]] ?_; (with_reducible refine (spec_ImageOk.calls k _ _ l0_0 true _ ?side1 ?side2 A3.out).mono ?_); (case side1 => exact kc (Kd.C_below HR0_0.out HB.out)); (case side2 => exact HC0_0.out); rintro e w11 ⟨rfl, hb⟩; refine ⟨_, rfl, ?_⟩; have n0_ := Aside0.mk (blk_below (g := gb458) (o := .cells #[.slice A0_0 l0_0.length c0_0] 29 (0, 0)) (kb BK458.out) hb); have n1_ := Aside0.mk (below_step (bw HB.out) hb); clear BK458; clear HB; have BK458 := n0_; have HB := n1_; clear n0_ n1_; (try clear hb); (try clear hb2); (try clear hk); (try clear hi)))
     have n0_ := Aside0.mk (blk_drew BK458.out)
     have n1_ := Aside0.mk (below_drew1 HB.out)
     clear BK458; clear HB; have BK458 := n0_; have HB := n1_; clear n0_ n1_
     have p464 : 0 ≤ (t463 : Int) := dt
     have q464 : t463 < (l0_0.length : Int) := dt
     obtain ⟨ad464, A464_0, c464_0, e464, hx464_0, hl464_0, hi464_0⟩ := at_L3 HR0_0.out t463 p464 q464
     have hw464_0 := hx464_0
     cases e464
     replace hx464_0 := (HB.out.cell (World.block_lt_of_cell? w _ hx464_0)).trans hx464_0
     have HR464_0 := Aside0.mk hi464_0
     have HC464_0 := Aside0.mk hl464_0
     clear hi464_0 hl464_0
     replace p464 := eq_true p464
     replace q464 := eq_true q464
     refine start_ (n := 10) (S := fun w' => w'.cell? ⟨gb458, 0, none⟩ = some (.slice (some ad464) l0_0.length c0_0) ∧ w'.cell? (ad464.add (t463).toNat) = some (.slice A464_0 (rd_L3 l0_0 t463).length c464_0)) (ds := []) #[false, false, false, false, false, false, false, false, false, false] (by kernel_rfl) rfl rfl ⟨(blk_cell BK458.out 0).trans rfl, ((HB.out.cell (World.block_lt_of_cell? w _ hw464_0)).trans hw464_0)⟩ (fun hHeld => ?_); refine with_tabW spec_BankOf.tab3 spec_BankOf.bits3 (fun HT_ HW_ => ?_)
     generalize w11.drew = w12 at BK458 HB HR464_0 hx464_0 hHeld ⊢
     refine pure_ (i := 1) (N := some 10) (v := ?_) (a' := ?_) #[false, true, false, false, false, false, false, false, false, false] rfl rfl (any_of HT_.out (by kernel_rfl)) (fun _ _ _ h => h) (Or.inl ⟨by rfl, ?_⟩) ?_ ?_
     rotate_left
     ·intro w'
      go_simp
      with_reducible rfl
     rotate_left
     ·simp only [Act.put, List.setIfInBounds_toArray, List.set_cons_zero, List.set_cons_succ, i64_w, i32_w]
      rfl
     refine pure_ (i := 4) (N := some 13) (v := ?_) (a' := ?_) #[false, true, false, false, true, false, false, false, false, false] rfl rfl (any_of HT_.out (by kernel_rfl)) (fun _ _ _ h => h) (Or.inl ⟨by rfl, ?_⟩) ?_ ?_
     rotate_left
     ·intro w'
      go_simp
      with_reducible rfl
     rotate_left
     ·simp only [Act.put, List.setIfInBounds_toArray, List.set_cons_zero, List.set_cons_succ, i64_w, i32_w]
      rfl
     refine take_ (i := 2) (N := some 11) (v := ?_) (a' := ?_) #[false, true, true, false, true, false, false, false, false, false] rfl rfl (take_ofW HT_.out HW_.out (by kernel_rfl)) (fun _ _ _ h => h) (Or.inl ⟨by rfl, ?_⟩) hHeld ?_ ?_
     rotate_left
     ·rintro w' ⟨s0, s1⟩
      go_simp
      with_reducible rfl
     rotate_left
     ·simp only [Act.put, List.setIfInBounds_toArray, List.set_cons_zero, List.set_cons_succ, i64_w, i32_w]
      rfl
     refine take_ (i := 3) (N := some 12) (v := ?_) (a' := ?_) #[false, true, true, true, true, false, false, false, false, false] rfl rfl (take_ofW HT_.out HW_.out (by kernel_rfl)) (fun _ _ _ h => h) (Or.inl ⟨by rfl, ?_⟩) hHeld ?_ ?_
     rotate_left
     ·rintro w' ⟨s0, s1⟩
      go_simp
      with_reducible rfl
     rotate_left
     ·simp only [Act.put, List.setIfInBounds_toArray, List.set_cons_zero, List.set_cons_succ, i64_w, i32_w]
      rfl
     refine join_ (σ := Value) 2 #[true, true, true, true, true, true, true, true, false, false] (fun s_ => [(9, s_), (14, .int .i64 t463), (15, .pointer (some (ad464.add (t463).toNat))), (16, .slice A464_0 (rd_L3 l0_0 t463).length c464_0)]) (fun s_ w' => (w'.cell? ⟨gb458, 0, none⟩ = some (.slice (some ad464) l0_0.length c0_0) ∧ w'.cell? (ad464.add (t463).toNat) = some (.slice A464_0 (rd_L3 l0_0 t463).length c464_0)) ∧ (Kd.R (Kd.int .i64) 3 w' w.heap.size (fun _ => True) s_ y460) ∧ (w'.heap[gb458]? = some (.cells #[.slice (some ad464) l0_0.length c0_0] 29 (0, 0))) ∧ (Below w.heap.size w w')) ?_ ?_
     rotate_left
     ·intro hCont
      refine two_ (i := 0) (j := 5) (Ni := some 9) (Nj := some 14) #[true, true, true, true, true, false, false, false, false, false] #[false, true, true, true, true, true, false, false, false, false] rfl rfl rfl rfl (two_of HT_.out (by kernel_rfl)) (by decide) (by decide) (fun K hK => ?_) (fun K hK => ?_)
      ·skip
       refine Kd.R_lit_step (Kd.int .i64) _ 3 ?hg (N := 9) ?hd (xs := ([] : List Int)) (inner := []) (ok := fun _ => True) (okp := fun _ => True) ?hr ?hp (fun _ hk => hk) trivial (Below.refl _ _) (Nat.le_refl _) (by simp) ?_; (case hd => rfl); (case hg => rfl); (case hr => first | (go_simp; done) | (go_simp; rfl)); (case hp => exact (Reps.none _ _))
       intro v461 w13 ho14 hb hg_ hnew_
       clear hg_ hnew_
       (first | rw [← Ny460.out] at ho14 | (simp only [Int.reduceToNat] at ho14; rw [← Ny460.out] at ho14))
       have n0_ := Aside0.mk (Kd.R_lower ho14 (below_size (bw HB.out)))
       have n1_ := Aside0.mk (blk_below (g := gb458) (o := .cells #[.slice (some ad464) l0_0.length c0_0] 29 (0, 0)) (kb BK458.out) hb)
       have n2_ := Aside0.mk (below_step (bw HB.out) hb)
       clear BK458; clear HB; have HO462 := n0_; have BK458 := n1_; have HB := n2_; clear n0_ n1_ n2_; clear hb ho14
       refine hK.out _ _ ⟨(blk_cell BK458.out 0).trans rfl, ((HB.out.cell (World.block_lt_of_cell? w _ hw464_0)).trans hw464_0)⟩ (fun hHeld => ?_)
       clear hK K
       refine norm_ (a' := ?_) ?_ ?_
       rotate_left
       ·show Act.put _ (some 9) _ = _
        simp only [Act.put, List.setIfInBounds_toArray, List.set_cons_zero, List.set_cons_succ, i64_w, i32_w]
        rfl
       refine one_ (i := 5) (N := some 14) #[true, true, true, true, true, true, false, false, false, false] rfl rfl (one_of HT_.out (by kernel_rfl)) (by decide) (fun K hK => ?_)
       refine goes_ Try.func74 (by kernel_rfl) rfl #[.agg #[.slice (some ad464) l0_0.length c0_0], .int .i64 a1] (by rfl) rfl rfl (by (try simp only [List.map_toArray, List.map_cons, List.map_nil]); first | done | rfl | (simp only [List.length_drop, List.length_take]; rfl)) ?_
       with_reducible refine (spec_l2Bank.calls _ _ l0_0 a1 t463 _ ?side1 ?side2 A5.out).mono ?_
       (case side1 => exact kc (Kd.C_below HR0_0.out HB.out))
       (case side2 => exact HC0_0.out)
       rintro e w15 ⟨rfl, hb⟩
       refine ⟨_, rfl, ?_⟩
       have n0_ := Aside0.mk (Kd.R_below (kr HO462.out) hb)
       have n1_ := Aside0.mk (blk_below (g := gb458) (o := .cells #[.slice (some ad464) l0_0.length c0_0] 29 (0, 0)) (kb BK458.out) hb)
       have n2_ := Aside0.mk (below_step (bw HB.out) hb)
       clear HO462; clear BK458; clear HB; have HO462 := n0_; have BK458 := n1_; have HB := n2_; clear n0_ n1_ n2_; (try clear hb); (try clear hb2); (try clear hk); (try clear hi)
       refine hK.out _ _ ⟨(blk_cell BK458.out 0).trans rfl, ((HB.out.cell (World.block_lt_of_cell? w _ hw464_0)).trans hw464_0)⟩ (fun hHeld => ?_)
       clear hK K
       refine norm_ (a' := ?_) ?_ ?_
       rotate_left
       ·show Act.put _ (some 14) _ = _
        simp only [Act.put, List.setIfInBounds_toArray, List.set_cons_zero, List.set_cons_succ, i64_w, i32_w]
        rfl
       refine pure_ (i := 6) (N := some 15) (v := ?_) (a' := ?_) #[true, true, true, true, true, true, true, false, false, false] rfl rfl (any_of HT_.out (by kernel_rfl)) (fun _ _ _ h => h) (Or.inl ⟨by rfl, ?_⟩) ?_ ?_
       rotate_left
       ·intro w'
        go_simp
        with_reducible rfl
       rotate_left
       ·simp only [Act.put, List.setIfInBounds_toArray, List.set_cons_zero, List.set_cons_succ, i64_w, i32_w]
        rfl
       refine take_ (i := 7) (N := some 16) (v := ?_) (a' := ?_) #[true, true, true, true, true, true, true, true, false, false] rfl rfl (take_ofW HT_.out HW_.out (by kernel_rfl)) (fun _ _ _ h => h) (Or.inl ⟨by rfl, ?_⟩) hHeld ?_ ?_
       rotate_left
       ·rintro w' ⟨s0, s1⟩
        go_simp
        with_reducible rfl
       rotate_left
       ·simp only [Act.put, List.setIfInBounds_toArray, List.set_cons_zero, List.set_cons_succ, i64_w, i32_w]
        rfl
       exact norm_ (by simp only [putAll, Act.put, List.setIfInBounds_toArray, List.set_cons_zero, List.set_cons_succ]) (hCont (v461) _ ⟨hHeld, (kr HO462.out), (kb BK458.out), (bw HB.out)⟩)
      ·skip
       refine goes_ Try.func74 (by kernel_rfl) rfl #[.agg #[.slice (some ad464) l0_0.length c0_0], .int .i64 a1] (by rfl) rfl rfl (by (try simp only [List.map_toArray, List.map_cons, List.map_nil]); first | done | rfl | (simp only [List.length_drop, List.length_take]; rfl)) ?_
       with_reducible refine (spec_l2Bank.calls _ _ l0_0 a1 t463 _ ?side1 ?side2 A5.out).mono ?_
       (case side1 => exact kc (Kd.C_below HR0_0.out HB.out))
       (case side2 => exact HC0_0.out)
       rintro e w13 ⟨rfl, hb⟩
       refine ⟨_, rfl, ?_⟩
       have n0_ := Aside0.mk (blk_below (g := gb458) (o := .cells #[.slice (some ad464) l0_0.length c0_0] 29 (0, 0)) (kb BK458.out) hb)
       have n1_ := Aside0.mk (below_step (bw HB.out) hb)
       clear BK458; clear HB; have BK458 := n0_; have HB := n1_; clear n0_ n1_; (try clear hb); (try clear hb2); (try clear hk); (try clear hi)
       refine hK.out _ _ ⟨(blk_cell BK458.out 0).trans rfl, ((HB.out.cell (World.block_lt_of_cell? w _ hw464_0)).trans hw464_0)⟩ (fun hHeld => ?_)
       clear hK K
       refine norm_ (a' := ?_) ?_ ?_
       rotate_left
       ·show Act.put _ (some 14) _ = _
        simp only [Act.put, List.setIfInBounds_toArray, List.set_cons_zero, List.set_cons_succ, i64_w, i32_w]
        rfl
       refine pure_ (i := 6) (N := some 15) (v := ?_) (a' := ?_) #[false, true, true, true, true, true, true, false, false, false] rfl rfl (any_of HT_.out (by kernel_rfl)) (fun _ _ _ h => h) (Or.inl ⟨by rfl, ?_⟩) ?_ ?_
       rotate_left
       ·intro w'
        go_simp
        with_reducible rfl
       rotate_left
       ·simp only [Act.put, List.setIfInBounds_toArray, List.set_cons_zero, List.set_cons_succ, i64_w, i32_w]
        rfl
       refine take_ (i := 7) (N := some 16) (v := ?_) (a' := ?_) #[false, true, true, true, true, true, true, true, false, false] rfl rfl (take_ofW HT_.out HW_.out (by kernel_rfl)) (fun _ _ _ h => h) (Or.inl ⟨by rfl, ?_⟩) hHeld ?_ ?_
       rotate_left
       ·rintro w' ⟨s0, s1⟩
        go_simp
        with_reducible rfl
       rotate_left
       ·simp only [Act.put, List.setIfInBounds_toArray, List.set_cons_zero, List.set_cons_succ, i64_w, i32_w]
        rfl
       refine one_ (i := 0) (N := some 9) #[true, true, true, true, true, true, true, true, false, false] rfl rfl (one_of HT_.out (by kernel_rfl)) (by decide) (fun K hK => ?_)
       refine Kd.R_lit_step (Kd.int .i64) _ 3 ?hg (N := 9) ?hd (xs := ([] : List Int)) (inner := []) (ok := fun _ => True) (okp := fun _ => True) ?hr ?hp (fun _ hk => hk) trivial (Below.refl _ _) (Nat.le_refl _) (by simp) ?_; (case hd => rfl); (case hg => rfl); (case hr => first | (go_simp; done) | (go_simp; rfl)); (case hp => exact (Reps.none _ _))
       intro v461 w14 ho15 hb hg_ hnew_
       clear hg_ hnew_
       (first | rw [← Ny460.out] at ho15 | (simp only [Int.reduceToNat] at ho15; rw [← Ny460.out] at ho15))
       have n0_ := Aside0.mk (Kd.R_lower ho15 (below_size (bw HB.out)))
       have n1_ := Aside0.mk (blk_below (g := gb458) (o := .cells #[.slice (some ad464) l0_0.length c0_0] 29 (0, 0)) (kb BK458.out) hb)
       have n2_ := Aside0.mk (below_step (bw HB.out) hb)
       clear BK458; clear HB; have HO462 := n0_; have BK458 := n1_; have HB := n2_; clear n0_ n1_ n2_; clear hb ho15
       refine hK.out _ _ ⟨(blk_cell BK458.out 0).trans rfl, ((HB.out.cell (World.block_lt_of_cell? w _ hw464_0)).trans hw464_0)⟩ (fun hHeld => ?_)
       clear hK K
       refine norm_ (a' := ?_) ?_ ?_
       rotate_left
       ·show Act.put _ (some 9) _ = _
        simp only [Act.put, List.setIfInBounds_toArray, List.set_cons_zero, List.set_cons_succ, i64_w, i32_w]
        rfl
       exact norm_ (by simp only [putAll, Act.put, List.setIfInBounds_toArray, List.set_cons_zero, List.set_cons_succ]) (hCont (v461) _ ⟨hHeld, (kr HO462.out), (kb BK458.out), (bw HB.out)⟩)
     rintro v461 w16 ⟨hS_, h0_, h1_, h2_⟩
     have n0_ : Aside0 (Kd.R (Kd.int .i64) 3 w16 w.heap.size (fun _ => True) v461 y460) := ⟨h0_⟩
     have n1_ : Aside0 (w16.heap[gb458]? = some (.cells #[.slice (some ad464) l0_0.length c0_0] 29 (0, 0))) := ⟨h1_⟩
     have n2_ : Aside0 (Below w.heap.size w w16) := ⟨h2_⟩
     clear BK458; clear HB; clear h0_ h1_ h2_; have HO462 := n0_; have BK458 := n1_; have HB := n2_; clear n0_ n1_ n2_
     have hHeld : w16.cell? ⟨gb458, 0, none⟩ = some (.slice (some ad464) l0_0.length c0_0) ∧ w16.cell? (ad464.add (t463).toNat) = some (.slice A464_0 (rd_L3 l0_0 t463).length c464_0) := hS_
     refine norm_ (a' := ?_) ?_ ?_
     rotate_left
     ·simp only [putAll, Act.put, List.setIfInBounds_toArray, List.set_cons_zero, List.set_cons_succ]
      rfl
     refine one_ (i := 8) (N := some 17) #[true, true, true, true, true, true, true, true, true, false] rfl rfl (one_of HT_.out (by kernel_rfl)) (by decide) (fun K hK => ?_)
     refine Kd.R_append_rows_step (Kd.int .i64) (w0 := w) w.heap.size (by rfl) (.tmp 9) (.tmp 16) 30 3 (.int .i64 0) 8 rfl Try.underlying30 info3 rfl (by decide) (by omega) v461 y460 (rd_L3 l0_0 t463) _ _ _ (fun _ => True) (fun _ => False) rfl rfl ?aO ?aR (fun _ _ h => h) (fun _ h => h.elim) ?aF ?aB ?aS ?aL ?_
     (case aR => exact kc (Kd.C_below HR464_0.out HB.out))
     (case aB => exact (bw HB.out))
     (case aF => exact (fun _ _ => trivial))
     (case aO => exact (kr HO462.out))
     (case aS => exact (below_size (bw HB.out)))
     (case aL => have := LMc8.out; omega)
     intro v466 w17 ho hb hg hat
     rw [← Ny465.out] at ho
     have n0_ := Aside0.mk (blk_grown (g := gb458) (o := .cells #[.slice (some ad464) l0_0.length c0_0] 29 (0, 0)) (kb BK458.out) hg (Kd.R_ne HO462.out BK458.out (by decide)))
     have n1_ := Aside0.mk (hb)
     have n2_ := Aside0.mk (ho)
     clear BK458; clear HB; clear HO462; have BK458 := n0_; have HB := n1_; have HO467 := n2_; clear n0_ n1_ n2_; clear ho hb hg hat
     refine hK.out _ _ ⟨(blk_cell BK458.out 0).trans rfl, ((HB.out.cell (World.block_lt_of_cell? w _ hw464_0)).trans hw464_0)⟩ (fun hHeld => ?_)
     clear hK K
     refine norm_ (a' := ?_) ?_ ?_
     rotate_left
     ·show Act.put _ (some 17) _ = _
      simp only [Act.put, List.setIfInBounds_toArray, List.set_cons_zero, List.set_cons_succ, i64_w, i32_w]
      rfl
     refine pure_ (i := 9) (N := some 4) (v := ?_) (a' := ?_) #[true, true, true, true, true, true, true, true, true, true] rfl rfl (any_of HT_.out (by kernel_rfl)) (fun _ _ _ h => h) (Or.inl ⟨by rfl, ?_⟩) ?_ ?_
     rotate_left
     ·intro w'
      go_simp
      with_reducible rfl
     rotate_left
     ·simp only [Act.put, List.setIfInBounds_toArray, List.set_cons_zero, List.set_cons_succ, i64_w, i32_w]
      rfl
     refine done_ (done_of HT_.out (by kernel_rfl)) ?_
     try go_wp2
     go_ret
     exact ⟨_, rt, kr HO467.out, bw HB.out⟩
    ·rw [if_neg c8] at H
     exact absurd H (by simp)
   ·rw [if_neg c7] at H
    exact absurd H (by simp)
  ·rw [if_neg c6] at H
   exact absurd H (by simp)
 ·replace c4 := Bool.eq_false_iff.mpr c4
  subst c4
  have H1 : (some (([] : List Int))) = some r := by rw [if_neg (show ¬ (false = true) by decide)] at H; exact H
  clear H
  have H := H1
  clear H1
  obtain ⟨y468, hy468⟩ : ∃ y_ : List Int, y_ = (([] : List Int)) := ⟨_, rfl⟩
  replace H : (some y468) = some r := by first | (rw [hy468]; with_reducible exact H) | (have H2_ := (Option.bind_some _ _).symm.trans H; rw [hy468]; with_reducible exact H2_) | (have H2_ := (Option.bind_some _ _).symm.trans H; with_reducible exact H2_) | with_reducible exact H | (rw [hy468]; exact H) | exact H
  have Ny468 := Aside0.mk hy468
  clear hy468
  obtain rfl := Option.some.inj H
  go_enter Try.func28, Try.ntmps28
  go_wp2_with (first | ((with_reducible refine gate_dst (N := 2) rfl ?_); refine bx (N := 2) (cs := #[.slice A0_0 l0_0.length c0_0]) (t := 29) ?_; intro gb458 hg w18 hbox hb; have n0_ := Aside0.mk (below_step (bw HB.out) hb); have n1_ := Aside0.mk (hbox); have n2_ := Aside0.mk ((gs hg (bw HB.out))); have n3_ := Aside0.mk ((gs hg (bw HB.out))); clear HB; have HB := n0_; have BK458 := n1_; have GW458 := n2_; have GE458 := n3_; clear n0_ n1_ n2_ n3_; clear hb hbox hg; have hcz19_0 : w18.cell? ⟨gb458, 0, none⟩ = some (.slice A0_0 l0_0.length c0_0) := (blk_cell BK458.out 0).trans rfl; have hfz19_0 := blk_frozen BK458.out 0) | ((with_reducible refine gate_callee (f := 20) rfl ?_); refine goesM_ (some 6) rfl rfl Try.func20 #[.agg #[.slice A0_0 l0_0.length c0_0]] ?_; (with_reducible refine (spec_ImageOk.calls k _ _ l0_0 false _ ?side1 ?side2 A3.out).mono ?_); (case side1 => exact kc (Kd.C_below HR0_0.out HB.out)); (case side2 => exact HC0_0.out); rintro e w20 ⟨rfl, hb⟩; refine ⟨_, rfl, ?_⟩; have n0_ := Aside0.mk (blk_below (g := gb458) (o := .cells #[.slice A0_0 l0_0.length c0_0] 29 (0, 0)) (kb BK458.out) hb); have n1_ := Aside0.mk (below_step (bw HB.out) hb); clear BK458; clear HB; have BK458 := n0_; have HB := n1_; clear n0_ n1_; (try clear hb); (try clear hb2); (try clear hk); (try clear hi)) | ((with_reducible refine gate_dst (N := 8) rfl ?_); refine Kd.R_lit (Kd.int .i64) _ 3 ?hg (N := 8) ?hd (xs := ([] : List Int)) (inner := []) (ok := fun _ => True) (okp := fun _ => True) ?hr ?hp (fun _ hk => hk) trivial (Below.refl _ _) (Nat.le_refl _) (by simp) ?_; (case hd => rfl); (case hg => rfl); (case hr => first | (go_simp; done) | (go_simp; rfl)); (case hp => exact (Reps.none _ _)); intro v469 w21 ho22 hb hg_ hnew_; clear hg_ hnew_; (first | rw [← Ny468.out] at ho22 | (simp only [Int.reduceToNat] at ho22; rw [← Ny468.out] at ho22)); have n0_ := Aside0.mk (Kd.R_lower ho22 (below_size (bw HB.out))); have n1_ := Aside0.mk (blk_below (g := gb458) (o := .cells #[.slice A0_0 l0_0.length c0_0] 29 (0, 0)) (kb BK458.out) hb); have n2_ := Aside0.mk (below_step (bw HB.out) hb); clear BK458; clear HB; have HO470 := n0_; have BK458 := n1_; have HB := n2_; clear n0_ n1_ n2_; clear hb ho22))
  go_ret
  exact ⟨_, rt, kr HO470.out, bw HB.out⟩

end Go.Proofs.Ytmkccgbfgebfbaa.MFnImage
