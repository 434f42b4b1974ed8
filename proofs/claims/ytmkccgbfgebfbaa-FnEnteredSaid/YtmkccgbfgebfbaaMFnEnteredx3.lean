/- Walks of functions that the law FnEntered reaches: each comes to just what its Lean function says. (Begun as the texts that print.sh wrote for this claim; some of them, and those that it does not write, are mine.) No condition. -/
import Derived.Test.YtmkccgbfgebfbaaMFnEnteredx2
namespace Go.Proofs.Ytmkccgbfgebfbaa.MFnEntered
open Go.RowKit Go.Proofs.YtmkccgbfgebfbaaW.PrintWords Go.Proofs.YtmkccgbfgebfbaaW.PrintLast Go.Proofs.YtmkccgbfgebfbaaW.PrintMore
attribute [local go_sem] max2_int min2_int max_two min_two max_three min_three max_four min_four   -- for this text's walks alone
set_option linter.unusedVariables false
set_option linter.unusedSimpArgs false

/-! ### spec_l1Byte: function 102 -/
def spec_l1Byte.f (s0_0 : List Int) (s0_1 : Int) (s0_2 : Int) : Option (Int × Int × Int) := if s0_1 < (s0_0.length : Int) then (if 0 ≤ s0_1 then (some (Go.bits .and .i64 (wrap64 ((Go.bits .and .i64 (Go.bits .xor .i64 ((wrap64 ((wrap64 (s0_2 * 6364136223846793005)) + 1442695040888963407)) / 8589934592) ((wrap64 ((wrap64 (s0_2 * 6364136223846793005)) + 1442695040888963407)) / 35184372088832)) 255) + (wrap64 (rd s0_0 s0_1)))) 255, wrap64 (s0_1 + 1), wrap64 ((wrap64 (s0_2 * 6364136223846793005)) + 1442695040888963407))) else (none)) else (some (Go.bits .and .i64 (Go.bits .xor .i64 ((wrap64 ((wrap64 (s0_2 * 6364136223846793005)) + 1442695040888963407)) / 8589934592) ((wrap64 ((wrap64 (s0_2 * 6364136223846793005)) + 1442695040888963407)) / 35184372088832)) 255, s0_1, wrap64 ((wrap64 (s0_2 * 6364136223846793005)) + 1442695040888963407)))
set_option maxHeartbeats 8000000 in
set_option maxRecDepth 100000 in
theorem spec_l1Byte.calls (g : Nat) (s0_0 : List Int) (s0_1 : Int) (s0_2 : Int) (r1 : Int) (r2 : Int) (r3 : Int) (w0 w : World) (hI : IsS107 w0 w g s0_0 s0_1 s0_2) (hB : Below w0.heap.size w0 w) (h : spec_l1Byte.f s0_0 s0_1 s0_2 = some (r1, r2, r3)) :
  Calls Try.prog 102 #[.pointer (some ⟨g, 0, none⟩)] w fun e w' => e = .returned (.int .i64 r1) ∧ IsS107 w0 w' g s0_0 r2 r3 ∧ Below w0.heap.size w0 w' ∧ KeepBut w w' g none := by
 have HI0 := Aside0.mk hI
 have HK := Aside0.mk (KeepBut.refl w g none)
 have HL := Aside0.mk hB.size
 clear hI
 have HW0 := Aside0.mk hB.size
 have HB := Aside0.mk hB
 clear hB
 have H : (if s0_1 < (s0_0.length : Int) then (if 0 ≤ s0_1 then (some (Go.bits .and .i64 (wrap64 ((Go.bits .and .i64 (Go.bits .xor .i64 ((wrap64 ((wrap64 (s0_2 * 6364136223846793005)) + 1442695040888963407)) / 8589934592) ((wrap64 ((wrap64 (s0_2 * 6364136223846793005)) + 1442695040888963407)) / 35184372088832)) 255) + (wrap64 (rd s0_0 s0_1)))) 255, wrap64 (s0_1 + 1), wrap64 ((wrap64 (s0_2 * 6364136223846793005)) + 1442695040888963407))) else (none)) else (some (Go.bits .and .i64 (Go.bits .xor .i64 ((wrap64 ((wrap64 (s0_2 * 6364136223846793005)) + 1442695040888963407)) / 8589934592) ((wrap64 ((wrap64 (s0_2 * 6364136223846793005)) + 1442695040888963407)) / 35184372088832)) 255, s0_1, wrap64 ((wrap64 (s0_2 * 6364136223846793005)) + 1442695040888963407)))) = some (r1, r2, r3) := h
 clear h
 by_cases c2 : s0_1 < (s0_0.length : Int)
 ·rw [if_pos c2] at H
  have c2b0 : decide (s0_1 < (s0_0.length : Int)) = true := decide_eq_true c2
  clear c2
  by_cases c3 : 0 ≤ s0_1
  ·rw [if_pos c3] at H
   have c3b0 : decide (0 ≤ s0_1) = true := decide_eq_true c3
   clear c3
   simp only [Option.some.injEq, Prod.mk.injEq] at H
   obtain ⟨rfl, rfl, rfl⟩ := H
   obtain ⟨ASz4_0, cSz4_0, HGz4, hgz4, HSz4_0⟩ := HI0.out
   have hcz4_0 := cellS107_0 HGz4
   have hcz4_1 := cellS107_1 HGz4
   have hcz4_2 := cellS107_2 HGz4
   have hfz4_1 := blk_frozen HGz4 1
   have hfz4_2 := blk_frozen HGz4 2
   clear HGz4 hgz4
   have p287 : 0 ≤ (s0_1 : Int) := dt
   have q287 : s0_1 < (s0_0.length : Int) := dt
   obtain ⟨ad287, e287, hx287_0⟩ := Kd.at_int HSz4_0 s0_1 p287 q287
   cases e287
   have hn287_0 : ad287.block ≠ g := Nat.ne_of_lt (Nat.lt_of_lt_of_le (by have := World.block_lt_of_cell? _ _ hx287_0; first | rwa [add_block] at this | exact this) (IsS107.ge HI0.out))
   replace hx287_0 := pw_cell_below HB.out hx287_0
   replace hx287_0 := (cell_far (p := ⟨g, 2, none⟩) (by first | (rw [add_block]; exact hn287_0) | (show (Addr.add _ _).block ≠ _; rw [add_block]; exact hn287_0) | exact hn287_0) (.int .i64 (wrap64 ((wrap64 (s0_2 * 6364136223846793005)) + 1442695040888963407)))).trans hx287_0
   (try have hy287_0 := fun (n_ : Nat) => (show (((w.drewN n_).setCell ⟨g, 2, none⟩ (.int .i64 (wrap64 ((wrap64 (s0_2 * 6364136223846793005)) + 1442695040888963407))))).cell? _ = some _ from hx287_0))
   clear hn287_0
   replace p287 := eq_true p287
   replace q287 := eq_true q287
   go_enter Try.func102, Try.ntmps102
   go_wp2
   repeat (go_quiet (fail); try go_wp2)
   go_ret
   exact ⟨rt, si HI0.out, bi HB.out, kp HK.out⟩
  ·rw [if_neg c3] at H
   exact absurd H (by simp)
 ·rw [if_neg c2] at H
  have c2b0 : decide (s0_1 < (s0_0.length : Int)) = false := decide_eq_false c2
  clear c2
  simp only [Option.some.injEq, Prod.mk.injEq] at H
  obtain ⟨rfl, rfl, rfl⟩ := H
  obtain ⟨ASz5_0, cSz5_0, HGz5, hgz5, HSz5_0⟩ := HI0.out
  have hcz5_0 := cellS107_0 HGz5
  have hcz5_1 := cellS107_1 HGz5
  have hcz5_2 := cellS107_2 HGz5
  have hfz5_1 := blk_frozen HGz5 1
  have hfz5_2 := blk_frozen HGz5 2
  clear HGz5 hgz5
  go_enter Try.func102, Try.ntmps102
  go_wp2
  repeat (go_quiet (fail); try go_wp2)
  go_ret
  exact ⟨rt, si HI0.out, bi HB.out, kp HK.out⟩

/-! ### spec_l1Below: function 60 -/
def spec_l1Below.f (s0_0 : List Int) (s0_1 : Int) (s0_2 : Int) (a1 : Int) : Option (Int × Int × Int) := if a1 ≤ 0 then (some (0, s0_1, s0_2)) else (if a1 ≤ 256 then ((spec_l1Byte.f s0_0 s0_1 s0_2).bind fun bt288 => (if a1 = 0 then (none) else (some (Int.tmod bt288.1 a1, bt288.2.1, bt288.2.2)))) else ((spec_l1Byte.f s0_0 s0_1 s0_2).bind fun bt291 => ((spec_l1Byte.f s0_0 bt291.2.1 bt291.2.2).bind fun bt294 => ((spec_l1Byte.f s0_0 bt294.2.1 bt294.2.2).bind fun bt297 => ((spec_l1Byte.f s0_0 bt297.2.1 bt297.2.2).bind fun bt300 => (if a1 = 0 then (none) else (some (Int.tmod (wrap64 ((wrap64 ((wrap64 ((wrap64 (bt291.1 * 16777216)) + (wrap64 (bt294.1 * 65536)))) + (wrap64 (bt297.1 * 256)))) + bt300.1)) a1, bt300.2.1, bt300.2.2))))))))
set_option maxHeartbeats 8000000 in
set_option maxRecDepth 100000 in
theorem spec_l1Below.calls (g : Nat) (s0_0 : List Int) (s0_1 : Int) (s0_2 : Int) (a1 : Int) (r1 : Int) (r2 : Int) (r3 : Int) (w0 w : World) (hI : IsS107 w0 w g s0_0 s0_1 s0_2) (hB : Below w0.heap.size w0 w) (h : spec_l1Below.f s0_0 s0_1 s0_2 a1 = some (r1, r2, r3)) :
  Calls Try.prog 60 #[.pointer (some ⟨g, 0, none⟩), .int .i64 a1] w fun e w' => e = .returned (.int .i64 r1) ∧ IsS107 w0 w' g s0_0 r2 r3 ∧ Below w0.heap.size w0 w' ∧ KeepBut w w' g none := by
 have HI0 := Aside0.mk hI
 have HK := Aside0.mk (KeepBut.refl w g none)
 have HL := Aside0.mk hB.size
 clear hI
 have HW0 := Aside0.mk hB.size
 have HB := Aside0.mk hB
 clear hB
 have H : (if a1 ≤ 0 then (some (0, s0_1, s0_2)) else (if a1 ≤ 256 then ((spec_l1Byte.f s0_0 s0_1 s0_2).bind fun bt288 => (if a1 = 0 then (none) else (some (Int.tmod bt288.1 a1, bt288.2.1, bt288.2.2)))) else ((spec_l1Byte.f s0_0 s0_1 s0_2).bind fun bt291 => ((spec_l1Byte.f s0_0 bt291.2.1 bt291.2.2).bind fun bt294 => ((spec_l1Byte.f s0_0 bt294.2.1 bt294.2.2).bind fun bt297 => ((spec_l1Byte.f s0_0 bt297.2.1 bt297.2.2).bind fun bt300 => (if a1 = 0 then (none) else (some (Int.tmod (wrap64 ((wrap64 ((wrap64 ((wrap64 (bt291.1 * 16777216)) + (wrap64 (bt294.1 * 65536)))) + (wrap64 (bt297.1 * 256)))) + bt300.1)) a1, bt300.2.1, bt300.2.2))))))))) = some (r1, r2, r3) := h
 clear h
 by_cases c3 : a1 ≤ 0
 ·rw [if_pos c3] at H
  have c3b0 : decide (a1 ≤ 0) = true := decide_eq_true c3
  clear c3
  simp only [Option.some.injEq, Prod.mk.injEq] at H
  obtain ⟨rfl, rfl, rfl⟩ := H
  go_enter Try.func60, Try.ntmps60
  go_wp2
  go_ret
  exact ⟨rt, si HI0.out, bi HB.out, kp HK.out⟩
 ·rw [if_neg c3] at H
  have c3b0 : decide (a1 ≤ 0) = false := decide_eq_false c3
  clear c3
  by_cases c4 : a1 ≤ 256
  ·rw [if_pos c4] at H
   have c4b0 : decide (a1 ≤ 256) = true := decide_eq_true c4
   clear c4
   replace H := Option.bind_eq_some_iff.mp H
   obtain ⟨⟨t288, t289, t290⟩, A50, H⟩ := H
   replace H : (if a1 = 0 then (none) else (some (Int.tmod t288 a1, t289, t290))) = some (r1, r2, r3) := H
   have A5 := Aside0.mk A50
   clear A50
   by_cases c6 : a1 = 0
   ·rw [if_pos c6] at H
    exact absurd H (by simp)
   ·rw [if_neg c6] at H
    have c6b0 : (a1 == 0) = false := beq_eq_false_iff_ne.mpr c6
    have c6b1 : (a1 != 0) = true := bne_iff_ne.mpr c6
    simp only [Option.some.injEq, Prod.mk.injEq] at H
    obtain ⟨rfl, rfl, rfl⟩ := H
    go_enter Try.func60, Try.ntmps60
    go_wp2_with (first | ((with_reducible refine gate_callee (f := 102) rfl ?_); refine goesM_ (some 14) rfl rfl Try.func102 #[.pointer (some ⟨g, 0, none⟩)] ?_; (with_reducible refine (spec_l1Byte.calls g s0_0 s0_1 s0_2 t288 t289 t290 w0 _ ?side1 ?side2 A5.out).mono ?_); (case side1 => exact si HI0.out); (case side2 => exact bi HB.out); rintro e w7 ⟨rfl, hi, hb, hk⟩; refine ⟨_, rfl, ?_⟩; replace HK := Aside0.mk (KeepBut.trans (kp HK.out) hk (.inl rfl)); replace HB := Aside0.mk (hb); replace HI0 := Aside0.mk (hi); (try clear hb); (try clear hb2); (try clear hk); (try clear hi)))
    go_ret
    exact ⟨rt, si HI0.out, bi HB.out, kp HK.out⟩
  ·rw [if_neg c4] at H
   have c4b0 : decide (a1 ≤ 256) = false := decide_eq_false c4
   clear c4
   replace H := Option.bind_eq_some_iff.mp H
   obtain ⟨⟨t291, t292, t293⟩, A80, H⟩ := H
   replace H : ((spec_l1Byte.f s0_0 t292 t293).bind fun bt294 => ((spec_l1Byte.f s0_0 bt294.2.1 bt294.2.2).bind fun bt297 => ((spec_l1Byte.f s0_0 bt297.2.1 bt297.2.2).bind fun bt300 => (if a1 = 0 then (none) else (some (Int.tmod (wrap64 ((wrap64 ((wrap64 ((wrap64 (t291 * 16777216)) + (wrap64 (bt294.1 * 65536)))) + (wrap64 (bt297.1 * 256)))) + bt300.1)) a1, bt300.2.1, bt300.2.2)))))) = some (r1, r2, r3) := H
   have A8 := Aside0.mk A80
   clear A80
   replace H := Option.bind_eq_some_iff.mp H
   obtain ⟨⟨t294, t295, t296⟩, A90, H⟩ := H
   replace H : ((spec_l1Byte.f s0_0 t295 t296).bind fun bt297 => ((spec_l1Byte.f s0_0 bt297.2.1 bt297.2.2).bind fun bt300 => (if a1 = 0 then (none) else (some (Int.tmod (wrap64 ((wrap64 ((wrap64 ((wrap64 (t291 * 16777216)) + (wrap64 (t294 * 65536)))) + (wrap64 (bt297.1 * 256)))) + bt300.1)) a1, bt300.2.1, bt300.2.2))))) = some (r1, r2, r3) := H
   have A9 := Aside0.mk A90
   clear A90
   replace H := Option.bind_eq_some_iff.mp H
   obtain ⟨⟨t297, t298, t299⟩, A100, H⟩ := H
   replace H : ((spec_l1Byte.f s0_0 t298 t299).bind fun bt300 => (if a1 = 0 then (none) else (some (Int.tmod (wrap64 ((wrap64 ((wrap64 ((wrap64 (t291 * 16777216)) + (wrap64 (t294 * 65536)))) + (wrap64 (t297 * 256)))) + bt300.1)) a1, bt300.2.1, bt300.2.2)))) = some (r1, r2, r3) := H
   have A10 := Aside0.mk A100
   clear A100
   replace H := Option.bind_eq_some_iff.mp H
   obtain ⟨⟨t300, t301, t302⟩, A110, H⟩ := H
   replace H : (if a1 = 0 then (none) else (some (Int.tmod (wrap64 ((wrap64 ((wrap64 ((wrap64 (t291 * 16777216)) + (wrap64 (t294 * 65536)))) + (wrap64 (t297 * 256)))) + t300)) a1, t301, t302))) = some (r1, r2, r3) := H
   have A11 := Aside0.mk A110
   clear A110
   by_cases c12 : a1 = 0
   ·rw [if_pos c12] at H
    exact absurd H (by simp)
   ·rw [if_neg c12] at H
    have c12b0 : (a1 == 0) = false := beq_eq_false_iff_ne.mpr c12
    have c12b1 : (a1 != 0) = true := bne_iff_ne.mpr c12
    simp only [Option.some.injEq, Prod.mk.injEq] at H
    obtain ⟨rfl, rfl, rfl⟩ := H
    go_enter Try.func60, Try.ntmps60
    go_wp2_with (first | ((with_reducible refine gate_callee (f := 102) rfl ?_); refine goesM_ (some 18) rfl rfl Try.func102 #[.pointer (some ⟨g, 0, none⟩)] ?_; (with_reducible refine (spec_l1Byte.calls g s0_0 s0_1 s0_2 t291 t292 t293 w0 _ ?side1 ?side2 A8.out).mono ?_); (case side1 => exact si HI0.out); (case side2 => exact bi HB.out); rintro e w13 ⟨rfl, hi, hb, hk⟩; refine ⟨_, rfl, ?_⟩; replace HK := Aside0.mk (KeepBut.trans (kp HK.out) hk (.inl rfl)); replace HB := Aside0.mk (hb); replace HI0 := Aside0.mk (hi); (try clear hb); (try clear hb2); (try clear hk); (try clear hi)) | ((with_reducible refine gate_callee (f := 102) rfl ?_); refine goesM_ (some 20) rfl rfl Try.func102 #[.pointer (some ⟨g, 0, none⟩)] ?_; (with_reducible refine (spec_l1Byte.calls g s0_0 t292 t293 t294 t295 t296 w0 _ ?side1 ?side2 A9.out).mono ?_); (case side1 => exact si HI0.out); (case side2 => exact bi HB.out); rintro e w14 ⟨rfl, hi, hb, hk⟩; refine ⟨_, rfl, ?_⟩; replace HK := Aside0.mk (KeepBut.trans (kp HK.out) hk (.inl rfl)); replace HB := Aside0.mk (hb); replace HI0 := Aside0.mk (hi); (try clear hb); (try clear hb2); (try clear hk); (try clear hi)) | ((with_reducible refine gate_callee (f := 102) rfl ?_); refine goesM_ (some 22) rfl rfl Try.func102 #[.pointer (some ⟨g, 0, none⟩)] ?_; (with_reducible refine (spec_l1Byte.calls g s0_0 t295 t296 t297 t298 t299 w0 _ ?side1 ?side2 A10.out).mono ?_); (case side1 => exact si HI0.out); (case side2 => exact bi HB.out); rintro e w15 ⟨rfl, hi, hb, hk⟩; refine ⟨_, rfl, ?_⟩; replace HK := Aside0.mk (KeepBut.trans (kp HK.out) hk (.inl rfl)); replace HB := Aside0.mk (hb); replace HI0 := Aside0.mk (hi); (try clear hb); (try clear hb2); (try clear hk); (try clear hi)) | ((with_reducible refine gate_callee (f := 102) rfl ?_); refine goesM_ (some 24) rfl rfl Try.func102 #[.pointer (some ⟨g, 0, none⟩)] ?_; (with_reducible refine (spec_l1Byte.calls g s0_0 t298 t299 t300 t301 t302 w0 _ ?side1 ?side2 A11.out).mono ?_); (case side1 => exact si HI0.out); (case side2 => exact bi HB.out); rintro e w16 ⟨rfl, hi, hb, hk⟩; refine ⟨_, rfl, ?_⟩; replace HK := Aside0.mk (KeepBut.trans (kp HK.out) hk (.inl rfl)); replace HB := Aside0.mk (hb); replace HI0 := Aside0.mk (hi); (try clear hb); (try clear hb2); (try clear hk); (try clear hi)))
    go_ret
    exact ⟨rt, si HI0.out, bi HB.out, kp HK.out⟩

/-! ### spec_l1Once: function 58 -/
def spec_l1Once.f (s0_0 : List Int) (s0_1 : Int) (s0_2 : Int) (a1 : Int) : Option (Bool × Int × Int) := (spec_l1Below.f s0_0 s0_1 s0_2 a1).bind fun bt303 => (some ((bt303.1 == 0), bt303.2.1, bt303.2.2))
set_option maxHeartbeats 8000000 in
set_option maxRecDepth 100000 in
theorem spec_l1Once.calls (g : Nat) (s0_0 : List Int) (s0_1 : Int) (s0_2 : Int) (a1 : Int) (r1 : Bool) (r2 : Int) (r3 : Int) (w0 w : World) (hI : IsS107 w0 w g s0_0 s0_1 s0_2) (hB : Below w0.heap.size w0 w) (h : spec_l1Once.f s0_0 s0_1 s0_2 a1 = some (r1, r2, r3)) :
  Calls Try.prog 58 #[.pointer (some ⟨g, 0, none⟩), .int .i64 a1] w fun e w' => e = .returned (.bool r1) ∧ IsS107 w0 w' g s0_0 r2 r3 ∧ Below w0.heap.size w0 w' ∧ KeepBut w w' g none := by
 have HI0 := Aside0.mk hI
 have HK := Aside0.mk (KeepBut.refl w g none)
 have HL := Aside0.mk hB.size
 clear hI
 have HW0 := Aside0.mk hB.size
 have HB := Aside0.mk hB
 clear hB
 have H : ((spec_l1Below.f s0_0 s0_1 s0_2 a1).bind fun bt303 => (some ((bt303.1 == 0), bt303.2.1, bt303.2.2))) = some (r1, r2, r3) := h
 clear h
 replace H := Option.bind_eq_some_iff.mp H
 obtain ⟨⟨t303, t304, t305⟩, A30, H⟩ := H
 replace H : (some ((t303 == 0), t304, t305)) = some (r1, r2, r3) := H
 have A3 := Aside0.mk A30
 clear A30
 simp only [Option.some.injEq, Prod.mk.injEq] at H
 obtain ⟨rfl, rfl, rfl⟩ := H
 go_enter Try.func58, Try.ntmps58
 go_wp2_with (first | ((with_reducible refine gate_callee (f := 60) rfl ?_); refine goesM_ (some 7) rfl rfl Try.func60 #[.pointer (some ⟨g, 0, none⟩), .int .i64 a1] ?_; (with_reducible refine (spec_l1Below.calls g s0_0 s0_1 s0_2 a1 t303 t304 t305 w0 _ ?side1 ?side2 A3.out).mono ?_); (case side1 => exact si HI0.out); (case side2 => exact bi HB.out); rintro e w4 ⟨rfl, hi, hb, hk⟩; refine ⟨_, rfl, ?_⟩; replace HK := Aside0.mk (KeepBut.trans (kp HK.out) hk (.inl rfl)); replace HB := Aside0.mk (hb); replace HI0 := Aside0.mk (hi); (try clear hb); (try clear hb2); (try clear hk); (try clear hi)))
 go_ret
 exact ⟨rt, si HI0.out, bi HB.out, kp HK.out⟩

/-! ### spec_l1PickInt: function 70 -/
def spec_l1PickInt.f (s0_0 : List Int) (s0_1 : Int) (s0_2 : Int) (l1 : List Int) : Option (Int × Int × Int) := (spec_l1Below.f s0_0 s0_1 s0_2 (l1.length : Int)).bind fun bt306 => (if 0 ≤ bt306.1 then (if bt306.1 < (l1.length : Int) then (some (rd l1 bt306.1, bt306.2.1, bt306.2.2)) else (none)) else (none))
set_option maxHeartbeats 8000000 in
set_option maxRecDepth 100000 in
theorem spec_l1PickInt.calls (g : Nat) (s0_0 : List Int) (s0_1 : Int) (s0_2 : Int) (A1 : Option Addr) (c1 : Nat) (l1 : List Int) (r1 : Int) (r2 : Int) (r3 : Int) (w0 w : World) (hI : IsS107 w0 w g s0_0 s0_1 s0_2) (hB : Below w0.heap.size w0 w) (hr1 : Kd.C (Kd.int .i64) w A1 l1.length l1) (hc1 : l1.length ≤ c1) (hf1 : ∀ ad, A1 = some ad → 0 < l1.length → ad.block ≠ g) (h : spec_l1PickInt.f s0_0 s0_1 s0_2 l1 = some (r1, r2, r3)) :
  Calls Try.prog 70 #[.pointer (some ⟨g, 0, none⟩), .slice A1 l1.length c1] w fun e w' => e = .returned (.int .i64 r1) ∧ IsS107 w0 w' g s0_0 r2 r3 ∧ Below w0.heap.size w0 w' ∧ KeepBut w w' g none := by
 have HR1 := Aside0.mk hr1
 have HC1 := Aside0.mk hc1
 clear hr1 hc1
 have HI0 := Aside0.mk hI
 have HK := Aside0.mk (KeepBut.refl w g none)
 have HL := Aside0.mk hB.size
 clear hI
 have HW0 := Aside0.mk hB.size
 have HB := Aside0.mk hB
 clear hB
 have H : ((spec_l1Below.f s0_0 s0_1 s0_2 (l1.length : Int)).bind fun bt306 => (if 0 ≤ bt306.1 then (if bt306.1 < (l1.length : Int) then (some (rd l1 bt306.1, bt306.2.1, bt306.2.2)) else (none)) else (none))) = some (r1, r2, r3) := h
 clear h
 replace H := Option.bind_eq_some_iff.mp H
 obtain ⟨⟨t306, t307, t308⟩, A30, H⟩ := H
 replace H : (if 0 ≤ t306 then (if t306 < (l1.length : Int) then (some (rd l1 t306, t307, t308)) else (none)) else (none)) = some (r1, r2, r3) := H
 have A3 := Aside0.mk A30
 clear A30
 by_cases c4 : 0 ≤ t306
 ·rw [if_pos c4] at H
  have c4b0 : decide (0 ≤ t306) = true := decide_eq_true c4
  clear c4
  by_cases c5 : t306 < (l1.length : Int)
  ·rw [if_pos c5] at H
   have c5b0 : decide (t306 < (l1.length : Int)) = true := decide_eq_true c5
   clear c5
   simp only [Option.some.injEq, Prod.mk.injEq] at H
   obtain ⟨rfl, rfl, rfl⟩ := H
   go_enter Try.func70, Try.ntmps70
   go_wp2_with (first | ((with_reducible refine gate_callee (f := 60) rfl ?_); refine goesM_ (some 9) rfl rfl Try.func60 #[.pointer (some ⟨g, 0, none⟩), .int .i64 (l1.length : Int)] ?_; (with_reducible refine (spec_l1Below.calls g s0_0 s0_1 s0_2 (l1.length : Int) t306 t307 t308 w0 _ ?side1 ?side2 A3.out).mono ?_); (case side1 => exact si HI0.out); (case side2 => exact bi HB.out); rintro e w6 ⟨rfl, hi, hb, hk⟩; refine ⟨_, rfl, ?_⟩; replace HK := Aside0.mk (KeepBut.trans (kp HK.out) hk (.inl rfl)); replace HB := Aside0.mk (hb); replace HI0 := Aside0.mk (hi); (try clear hb); (try clear hb2); (try clear hk); (try clear hi); have p309 : 0 ≤ (t306 : Int) := dt; have q309 : t306 < (l1.length : Int) := dt; obtain ⟨ad309, e309, hx309_0⟩ := Kd.at_int HR1.out t306 p309 q309; cases e309; replace hx309_0 := keep_cell HK.out hx309_0 (by first | (rw [add_block]; exact hf1 _ rfl (by omega)) | exact hf1 _ rfl (by omega) | exact hf1 ad309 rfl (by omega)); replace p309 := eq_true p309; replace q309 := eq_true q309))
   go_ret
   exact ⟨rt, si HI0.out, bi HB.out, kp HK.out⟩
  ·rw [if_neg c5] at H
   exact absurd H (by simp)
 ·rw [if_neg c4] at H
  exact absurd H (by simp)

/-! ### spec_l2DrawBank: function 105 -/
def spec_l2DrawBank.l0 : Nat → List Int → Int → List Int → Int → Int → Option (List Int × Int × Int)
 | 0, _, _, _, _, _ => none
 | k + 1, x3, x4, x1000, x1001, x1002 => if x4 < 256 then ((spec_l1Below.f x1000 x1001 x1002 4).bind fun bt313 => (if bt313.1 = 0 then ((spec_l1Below.f x1000 bt313.2.1 bt313.2.2 30).bind fun bt316 => (if 0 ≤ x4 then (if x4 < (x3.length : Int) then (spec_l2DrawBank.l0 k (x3.set (x4 : Int).toNat bt316.1) (wrap64 (x4 + 1)) x1000 bt316.2.1 bt316.2.2) else (none)) else (none))) else (if bt313.1 = 1 then ((spec_l1PickInt.f x1000 bt313.2.1 bt313.2.2 (([32, 64, 0, 1, 22, 192, 128, 2, 4, 5] : List Int))).bind fun bt323 => (if 0 ≤ x4 then (if x4 < (x3.length : Int) then (spec_l2DrawBank.l0 k (x3.set (x4 : Int).toNat bt323.1) (wrap64 (x4 + 1)) x1000 bt323.2.1 bt323.2.2) else (none)) else (none))) else (if bt313.1 = 2 then ((spec_l1Below.f x1000 bt313.2.1 bt313.2.2 256).bind fun bt327 => (if 0 ≤ x4 then (if x4 < (x3.length : Int) then (spec_l2DrawBank.l0 k (x3.set (x4 : Int).toNat bt327.1) (wrap64 (x4 + 1)) x1000 bt327.2.1 bt327.2.2) else (none)) else (none))) else (spec_l2DrawBank.l0 k x3 (wrap64 (x4 + 1)) x1000 bt313.2.1 bt313.2.2))))) else (some (x3, x1001, x1002))
def spec_l2DrawBank.f (k : Nat) (s0_0 : List Int) (s0_1 : Int) (s0_2 : Int) : Option (List Int × Int × Int) := if 256 ≤ 35184372088832 then (spec_l2DrawBank.l0 k (List.replicate 256 0) 0 s0_0 s0_1 s0_2) else (none)
set_option maxHeartbeats 8000000 in
set_option maxRecDepth 100000 in
theorem spec_l2DrawBank.calls (k : Nat) (g : Nat) (s0_0 : List Int) (s0_1 : Int) (s0_2 : Int) (r1 : List Int) (r2 : Int) (r3 : Int) (w0 w : World) (hI : IsS107 w0 w g s0_0 s0_1 s0_2) (hB : Below w0.heap.size w0 w) (h : spec_l2DrawBank.f k s0_0 s0_1 s0_2 = some (r1, r2, r3)) :
  Calls Try.prog 105 #[.pointer (some ⟨g, 0, none⟩)] w fun e w' => ∃ v0_ : Value, e = .returned (v0_) ∧ Kd.R (Kd.int .i64) 3 w' w.heap.size (fun _ => True) v0_ r1 ∧ IsS107 w0 w' g s0_0 r2 r3 ∧ Below w0.heap.size w0 w' ∧ KeepBut w w' g none := by
 have HI0 := Aside0.mk hI
 have HK := Aside0.mk (KeepBut.refl w g none)
 have HL := Aside0.mk hB.size
 clear hI
 have HW0 := Aside0.mk hB.size
 have HB := Aside0.mk hB
 clear hB
 have H : (if 256 ≤ 35184372088832 then (spec_l2DrawBank.l0 k (List.replicate 256 0) 0 s0_0 s0_1 s0_2) else (none)) = some (r1, r2, r3) := h
 clear h
 by_cases c2 : 256 ≤ 35184372088832
 ·rw [if_pos c2] at H
  have c2b0 := eq_true c2
  have c2b1 : decide (256 ≤ 35184372088832) = true := decide_eq_true c2
  clear c2
  obtain ⟨y310, hy310⟩ : ∃ y_ : List Int, y_ = (List.replicate 256 0) := ⟨_, rfl⟩
  replace H : (spec_l2DrawBank.l0 k y310 0 s0_0 s0_1 s0_2) = some (r1, r2, r3) := by first | (rw [hy310]; with_reducible exact H) | (have H2_ := (Option.bind_some _ _).symm.trans H; rw [hy310]; with_reducible exact H2_) | (have H2_ := (Option.bind_some _ _).symm.trans H; with_reducible exact H2_) | with_reducible exact H | (rw [hy310]; exact H) | exact H
  have Ny310 := Aside0.mk hy310
  clear hy310
  have H' := Aside0.mk H
  clear H
  go_enter Try.func105, Try.ntmps105
  go_wp2_with (first | ((with_reducible refine gate_dst (N := 5) rfl ?_); refine Kd.R_make (Kd.int .i64) _ 3 rfl (N := 5) rfl 30 _ _ rfl 256 rfl rfl Try.underlying30 (.int .i64 0) 8 info3 rfl (by decide) (by omega) 0 (ok := fun _ => True) (okp := fun _ => True) rfl (fun _ hk => hk) trivial (by omega) (by omega) (Below.refl _ _) (Nat.le_refl _) ?_; intro v311 w3 ho4 hb hg_ hnew_; clear hg_ hnew_; (first | rw [← Ny310.out] at ho4 | (simp only [Int.reduceToNat] at ho4; rw [← Ny310.out] at ho4)); have HO312 := Aside0.mk (Kd.R_lower ho4 (keep_size (w := w) (g := g) (row := none) (kp HK.out))); replace HI0 := Aside0.mk (IsS107.below (si HI0.out) hb); replace HK := Aside0.mk (KeepBut.trans (kp HK.out) (KeepBut.of_below hb g none) (.inl rfl)); replace HB := Aside0.mk (below_step (bi HB.out) hb); clear hb ho4))
  go_loopg [4] k (fun kq v4 w' => ∃ (x3_1 : List Int) (x4_1 : Int) (x1001_1 : Int) (x1002_1 : Int), v4 = .int .i64 x4_1 ∧ Aside0 (spec_l2DrawBank.l0 kq x3_1 x4_1 s0_0 x1001_1 x1002_1 = some (r1, r2, r3)) ∧ Aside0 (kq ≤ k) ∧ Aside0 (Kd.R (Kd.int .i64) 3 w' w.heap.size (fun _ => True) v311 x3_1) ∧ Aside0 (IsS107 w0 w' g s0_0 x1001_1 x1002_1) ∧ Aside0 (KeepBut w w' g none) ∧ Aside0 (Below w0.heap.size w0 w'))
  case atStart => exact ⟨(y310), (0), (s0_1), (s0_2), (by first | rfl | (simp; done) | (simp [*]; done)), H', ⟨Nat.le_refl _⟩, ⟨kr HO312.out⟩, ⟨si HI0.out⟩, ⟨kp HK.out⟩, ⟨bi HB.out⟩⟩
  case round =>
   clear H'
   (try clear c1); (try clear c2); (try clear c2b0); (try clear c2b1); (try clear p2)
   obtain ⟨x3_1, x4_1, x1001_1, x1002_1, rfl, HA, HK1, HO_3, HI0, HK, HB⟩ := hrel
   cases gk with
   | zero => exact absurd HA.out (by simp [spec_l2DrawBank.l0])
   | succ k1 =>
    have H := HA.out
    clear HA
    simp only [spec_l2DrawBank.l0] at H
    by_cases c5 : x4_1 < 256
    ·rw [if_pos c5] at H
     have c5b0 : decide (x4_1 < 256) = true := decide_eq_true c5
     clear c5
     replace H := Option.bind_eq_some_iff.mp H
     obtain ⟨⟨t313, t314, t315⟩, A60, H⟩ := H
     replace H : (if t313 = 0 then ((spec_l1Below.f s0_0 t314 t315 30).bind fun bt316 => (if 0 ≤ x4_1 then (if x4_1 < (x3_1.length : Int) then (spec_l2DrawBank.l0 k1 (x3_1.set (x4_1 : Int).toNat bt316.1) (wrap64 (x4_1 + 1)) s0_0 bt316.2.1 bt316.2.2) else (none)) else (none))) else (if t313 = 1 then ((spec_l1PickInt.f s0_0 t314 t315 (([32, 64, 0, 1, 22, 192, 128, 2, 4, 5] : List Int))).bind fun bt323 => (if 0 ≤ x4_1 then (if x4_1 < (x3_1.length : Int) then (spec_l2DrawBank.l0 k1 (x3_1.set (x4_1 : Int).toNat bt323.1) (wrap64 (x4_1 + 1)) s0_0 bt323.2.1 bt323.2.2) else (none)) else (none))) else (if t313 = 2 then ((spec_l1Below.f s0_0 t314 t315 256).bind fun bt327 => (if 0 ≤ x4_1 then (if x4_1 < (x3_1.length : Int) then (spec_l2DrawBank.l0 k1 (x3_1.set (x4_1 : Int).toNat bt327.1) (wrap64 (x4_1 + 1)) s0_0 bt327.2.1 bt327.2.2) else (none)) else (none))) else (spec_l2DrawBank.l0 k1 x3_1 (wrap64 (x4_1 + 1)) s0_0 t314 t315)))) = some (r1, r2, r3) := H
     have A6 := Aside0.mk A60
     clear A60
     by_cases c7 : t313 = 0
     ·rw [if_pos c7] at H
      have c7b0 : (t313 == 0) = true := beq_iff_eq.mpr c7
      have c7b1 : (t313 != 0) = false := bne_eq_false_iff_eq.mpr c7
      clear c7
      replace H := Option.bind_eq_some_iff.mp H
      obtain ⟨⟨t316, t317, t318⟩, A80, H⟩ := H
      replace H : (if 0 ≤ x4_1 then (if x4_1 < (x3_1.length : Int) then (spec_l2DrawBank.l0 k1 (x3_1.set (x4_1 : Int).toNat t316) (wrap64 (x4_1 + 1)) s0_0 t317 t318) else (none)) else (none)) = some (r1, r2, r3) := H
      have A8 := Aside0.mk A80
      clear A80
      by_cases c9 : 0 ≤ x4_1
      ·rw [if_pos c9] at H
       have c9b0 : decide (0 ≤ x4_1) = true := decide_eq_true c9
       clear c9
       by_cases c10 : x4_1 < (x3_1.length : Int)
       ·rw [if_pos c10] at H
        have c10b0 : decide (x4_1 < (x3_1.length : Int)) = true := decide_eq_true c10
        clear c10
        obtain ⟨y319, hy319⟩ : ∃ y_ : List Int, y_ = (x3_1.set (x4_1 : Int).toNat t316) := ⟨_, rfl⟩
        replace H : (spec_l2DrawBank.l0 k1 y319 (wrap64 (x4_1 + 1)) s0_0 t317 t318) = some (r1, r2, r3) := by first | (rw [hy319]; with_reducible exact H) | (have H2_ := (Option.bind_some _ _).symm.trans H; rw [hy319]; with_reducible exact H2_) | (have H2_ := (Option.bind_some _ _).symm.trans H; with_reducible exact H2_) | with_reducible exact H | (rw [hy319]; exact H) | exact H
        have Ny319 := Aside0.mk hy319
        clear hy319
        have H' := Aside0.mk H
        clear H
        go_wp2_with (first | ((with_reducible refine gate_callee (f := 60) rfl ?_); refine goesM_ (some 11) rfl rfl Try.func60 #[.pointer (some ⟨g, 0, none⟩), .int .i64 4] ?_; (with_reducible refine (spec_l1Below.calls g s0_0 x1001_1 x1002_1 4 t313 t314 t315 w0 _ ?side1 ?side2 A6.out).mono ?_); (case side1 => exact si HI0.out); (case side2 => exact bi HB.out); rintro e w12 ⟨rfl, hi, hb, hk⟩; refine ⟨_, rfl, ?_⟩; replace HO_3 := Aside0.mk (Kd.R_mono (Kd.R_keep (IsS107.apart (show IsS107 w0 _ g s0_0 x1001_1 x1002_1 from si HI0.out) (kr HO_3.out) (by decide)) hk (fun _ h => h.2)) (fun _ h => h.1)); replace HK := Aside0.mk (KeepBut.trans (kp HK.out) hk (.inl rfl)); replace HB := Aside0.mk (hb); replace HI0 := Aside0.mk (hi); (try clear hb); (try clear hb2); (try clear hk); (try clear hi)) | ((with_reducible refine gate_callee (f := 60) rfl ?_); refine goesM_ (some 17) rfl rfl Try.func60 #[.pointer (some ⟨g, 0, none⟩), .int .i64 30] ?_; (with_reducible refine (spec_l1Below.calls g s0_0 t314 t315 30 t316 t317 t318 w0 _ ?side1 ?side2 A8.out).mono ?_); (case side1 => exact si HI0.out); (case side2 => exact bi HB.out); rintro e w13 ⟨rfl, hi, hb, hk⟩; refine ⟨_, rfl, ?_⟩; replace HO_3 := Aside0.mk (Kd.R_mono (Kd.R_keep (IsS107.apart (show IsS107 w0 _ g s0_0 t314 t315 from si HI0.out) (kr HO_3.out) (by decide)) hk (fun _ h => h.2)) (fun _ h => h.1)); replace HK := Aside0.mk (KeepBut.trans (kp HK.out) hk (.inl rfl)); replace HB := Aside0.mk (hb); replace HI0 := Aside0.mk (hi); (try clear hb); (try clear hb2); (try clear hk); (try clear hi); have p11 : 0 ≤ (x4_1 : Int) := dt; have q11 : (x4_1 : Int) < ((x3_1.length : Int) : Int) := dt; obtain ⟨go11, co11, eo11, gb11, gl11, cl11, HG11⟩ := Kd.R_form HO_3.out (by omega); (first | cases eo11 | (injection eo11 with ea_ en_ ec_; (first | subst ea_ | (injection ea_ with ea_; subst ea_)); subst ec_; clear en_)); have GB11 := Aside0.mk gb11; have GG11 := Aside0.mk HG11; clear gb11 gl11 HG11; obtain ⟨hx11_0, hf11_0⟩ := Kd.R_celln 0 HO_3.out (x4_1 : Int) p11 q11; replace p11 := eq_true p11; replace q11 := eq_true q11; obtain ⟨hy14_, hz14_⟩ := Kd.R_celln 0 HO_3.out (x4_1 : Int) dt dt; have HP14 := Kd.R_putg HO_3.out (x4_1 : Int) t316) | ((with_reducible refine gate_store (t := 3) (p := 18) rfl ?_); refine store_event (t := 3) (p := 18) (v := ?vo_w15) (w1 := (w13.setCell ⟨go11, (x4_1 : Int).toNat, none⟩ (.int .i64 t316))) ?hg ?ho ?hn ?hr ?_; (case ho => rfl); (case hg => rfl); (case hn => rfl); (case hr => first | (go_simp; done) | (go_simp; rfl)); intro w15 hw; have hg : w13.grownBy w15 (some go11) := (by rw [hw]; exact HP14.2); have hp_ : Kd.R (Kd.int .i64) 3 w15 w.heap.size (fun _ => True) (.slice (some ⟨go11, 0, none⟩) x3_1.length co11) y319 := (by rw [hw, Ny319.out]; exact HP14.1); clear HP14; have n0_ := Aside0.mk (hp_); have n1_ := Aside0.mk (IsS107.grown (si HI0.out) hg (IsS107.own_ne HI0.out HO_3.out (by decide))); have n2_ := Aside0.mk ((by rw [hw]; exact below_set (HB.out) (Nat.le_trans HL.out GB11.out) : Below w0.heap.size w0 w15)); have n3_ := Aside0.mk (KeepBut.trans (kp HK.out) (KeepBut.of_grown hg g) (Kd.R_base2 HO_3.out)); clear HO_3; clear HI0; clear HB; clear HK; have HO_3 := n0_; have HI0 := n1_; have HB := n2_; have HK := n3_; clear n0_ n1_ n2_ n3_; clear hg hw hp_))
        go_roundg k1
        case measure => have := HK1.out; omega
        case rel => exact ⟨(y319), (wrap64 (x4_1 + 1)), (t317), (t318), (by first | rfl | (simp; done) | (simp [*]; done)), H', ⟨by have := HK1.out; omega⟩, ⟨kr HO_3.out⟩, ⟨si HI0.out⟩, ⟨kp HK.out⟩, ⟨bi HB.out⟩⟩
       ·rw [if_neg c10] at H
        exact absurd H (by simp)
      ·rw [if_neg c9] at H
       exact absurd H (by simp)
     ·rw [if_neg c7] at H
      have c7b0 : (t313 == 0) = false := beq_eq_false_iff_ne.mpr c7
      have c7b1 : (t313 != 0) = true := bne_iff_ne.mpr c7
      by_cases c16 : t313 = 1
      ·rw [if_pos c16] at H
       have c16b0 : (t313 == 1) = true := beq_iff_eq.mpr c16
       have c16b1 : (t313 != 1) = false := bne_eq_false_iff_eq.mpr c16
       clear c16
       obtain ⟨y320, hy320⟩ : ∃ y_ : List Int, y_ = (([32, 64, 0, 1, 22, 192, 128, 2, 4, 5] : List Int)) := ⟨_, rfl⟩
       replace H : ((spec_l1PickInt.f s0_0 t314 t315 y320).bind fun bt323 => (if 0 ≤ x4_1 then (if x4_1 < (x3_1.length : Int) then (spec_l2DrawBank.l0 k1 (x3_1.set (x4_1 : Int).toNat bt323.1) (wrap64 (x4_1 + 1)) s0_0 bt323.2.1 bt323.2.2) else (none)) else (none))) = some (r1, r2, r3) := by first | (rw [hy320]; with_reducible exact H) | (have H2_ := (Option.bind_some _ _).symm.trans H; rw [hy320]; with_reducible exact H2_) | (have H2_ := (Option.bind_some _ _).symm.trans H; with_reducible exact H2_) | with_reducible exact H | (rw [hy320]; exact H) | exact H
       have Ny320 := Aside0.mk hy320
       clear hy320
       replace H := Option.bind_eq_some_iff.mp H
       obtain ⟨⟨t323, t324, t325⟩, A170, H⟩ := H
       replace H : (if 0 ≤ x4_1 then (if x4_1 < (x3_1.length : Int) then (spec_l2DrawBank.l0 k1 (x3_1.set (x4_1 : Int).toNat t323) (wrap64 (x4_1 + 1)) s0_0 t324 t325) else (none)) else (none)) = some (r1, r2, r3) := H
       have A17 := Aside0.mk A170
       clear A170
       by_cases c18 : 0 ≤ x4_1
       ·rw [if_pos c18] at H
        have c18b0 : decide (0 ≤ x4_1) = true := decide_eq_true c18
        clear c18
        by_cases c19 : x4_1 < (x3_1.length : Int)
        ·rw [if_pos c19] at H
         have c19b0 : decide (x4_1 < (x3_1.length : Int)) = true := decide_eq_true c19
         clear c19
         obtain ⟨y326, hy326⟩ : ∃ y_ : List Int, y_ = (x3_1.set (x4_1 : Int).toNat t323) := ⟨_, rfl⟩
         replace H : (spec_l2DrawBank.l0 k1 y326 (wrap64 (x4_1 + 1)) s0_0 t324 t325) = some (r1, r2, r3) := by first | (rw [hy326]; with_reducible exact H) | (have H2_ := (Option.bind_some _ _).symm.trans H; rw [hy326]; with_reducible exact H2_) | (have H2_ := (Option.bind_some _ _).symm.trans H; with_reducible exact H2_) | with_reducible exact H | (rw [hy326]; exact H) | exact H
         have Ny326 := Aside0.mk hy326
         clear hy326
         have H' := Aside0.mk H
         clear H
         go_wp2_with (first | ((with_reducible refine gate_callee (f := 60) rfl ?_); refine goesM_ (some 11) rfl rfl Try.func60 #[.pointer (some ⟨g, 0, none⟩), .int .i64 4] ?_; (with_reducible refine (spec_l1Below.calls g s0_0 x1001_1 x1002_1 4 t313 t314 t315 w0 _ ?side1 ?side2 A6.out).mono ?_); (case side1 => exact si HI0.out); (case side2 => exact bi HB.out); rintro e w21 ⟨rfl, hi, hb, hk⟩; refine ⟨_, rfl, ?_⟩; replace HO_3 := Aside0.mk (Kd.R_mono (Kd.R_keep (IsS107.apart (show IsS107 w0 _ g s0_0 x1001_1 x1002_1 from si HI0.out) (kr HO_3.out) (by decide)) hk (fun _ h => h.2)) (fun _ h => h.1)); replace HK := Aside0.mk (KeepBut.trans (kp HK.out) hk (.inl rfl)); replace HB := Aside0.mk (hb); replace HI0 := Aside0.mk (hi); (try clear hb); (try clear hb2); (try clear hk); (try clear hi)) | ((with_reducible refine gate_dst (N := 24) rfl ?_); refine Kd.R_lit (Kd.int .i64) _ 3 ?hg (N := 24) ?hd (xs := ([32, 64, 0, 1, 22, 192, 128, 2, 4, 5] : List Int)) (inner := [.int .i64 32, .int .i64 64, .int .i64 0, .int .i64 1, .int .i64 22, .int .i64 192, .int .i64 128, .int .i64 2, .int .i64 4, .int .i64 5]) (ok := fun _ => True) (okp := fun _ => True) ?hr ?hp (fun _ hk => hk) trivial (Below.refl _ _) (Nat.le_refl _) (by simp) ?_; (case hd => rfl); (case hg => rfl); (case hr => first | (go_simp; done) | (go_simp; rfl)); (case hp => exact (reI _)); intro v321 w22 ho23 hb hg_ hnew_; clear hg_ hnew_; (first | rw [← Ny320.out] at ho23 | (simp only [Int.reduceToNat] at ho23; rw [← Ny320.out] at ho23)); have HO322 := Aside0.mk (Kd.R_lower (Kd.R_new' ho23 (Kd.R_lt (kr HO_3.out))) (keep_size (w := w) (g := g) (row := none) (kp HK.out))); replace HO_3 := Aside0.mk (Kd.R_elder' (kr HO_3.out) (Kd.R_base ho23) hb); replace HI0 := Aside0.mk (IsS107.below (si HI0.out) hb); replace HK := Aside0.mk (KeepBut.trans (kp HK.out) (KeepBut.of_below hb g none) (.inl rfl)); replace HB := Aside0.mk (below_step (bi HB.out) hb); clear hb ho23; obtain ⟨Ao24, co24, eo24⟩ := Kd.R_slice HO322.out; subst eo24) | ((with_reducible refine gate_callee (f := 70) rfl ?_); refine goesM_ (some 25) rfl rfl Try.func70 #[.pointer (some ⟨g, 0, none⟩), .slice Ao24 y320.length co24] ?_; (with_reducible refine (spec_l1PickInt.calls g s0_0 t314 t315 _ _ y320 t323 t324 t325 w0 _ ?side1 ?side2 ?side3 ?side4 ?side5 A17.out).mono ?_); (case side1 => exact si HI0.out); (case side2 => exact bi HB.out); (case side3 => exact kc (Kd.R_reads' HO322.out).2.2); (case side4 => exact (Kd.R_reads' HO322.out).2.1); (case side5 => exact far_slice (IsS107.own_ne HI0.out HO322.out (by decide))); rintro e w25 ⟨rfl, hi, hb, hk⟩; refine ⟨_, rfl, ?_⟩; replace HO_3 := Aside0.mk (Kd.R_mono (Kd.R_keep (IsS107.apart (show IsS107 w0 _ g s0_0 t314 t315 from si HI0.out) (kr HO_3.out) (by decide)) hk (fun _ h => h.2)) (fun _ h => h.1)); replace HO322 := Aside0.mk (Kd.R_mono (Kd.R_keep (IsS107.apart (show IsS107 w0 _ g s0_0 t314 t315 from si HI0.out) (kr HO322.out) (by decide)) hk (fun _ h => h.2)) (fun _ h => h.1)); replace HK := Aside0.mk (KeepBut.trans (kp HK.out) hk (.inl rfl)); replace HB := Aside0.mk (hb); replace HI0 := Aside0.mk (hi); (try clear hb); (try clear hb2); (try clear hk); (try clear hi); have p20 : 0 ≤ (x4_1 : Int) := dt; have q20 : (x4_1 : Int) < ((x3_1.length : Int) : Int) := dt; obtain ⟨go20, co20, eo20, gb20, gl20, cl20, HG20⟩ := Kd.R_form HO_3.out (by omega); (first | cases eo20 | (injection eo20 with ea_ en_ ec_; (first | subst ea_ | (injection ea_ with ea_; subst ea_)); subst ec_; clear en_)); have GB20 := Aside0.mk gb20; have GG20 := Aside0.mk HG20; clear gb20 gl20 HG20; obtain ⟨hx20_0, hf20_0⟩ := Kd.R_celln 0 HO_3.out (x4_1 : Int) p20 q20; replace p20 := eq_true p20; replace q20 := eq_true q20; have n_ := Aside0.mk (Kd.R_mono (ok' := (fun k_ => some k_ ≠ (.slice Ao24 y320.length co24 : Value).ownBlock)) HO_3.out (fun k_ hk => hk.2)); clear HO_3; have HO_3 := n_; clear n_; obtain ⟨hy26_, hz26_⟩ := Kd.R_celln 0 HO_3.out (x4_1 : Int) dt dt; have HP26 := Kd.R_putg HO_3.out (x4_1 : Int) t323) | ((with_reducible refine gate_store (t := 3) (p := 26) rfl ?_); refine store_event (t := 3) (p := 26) (v := ?vo_w27) (w1 := (w25.setCell ⟨go20, (x4_1 : Int).toNat, none⟩ (.int .i64 t323))) ?hg ?ho ?hn ?hr ?_; (case ho => rfl); (case hg => rfl); (case hn => rfl); (case hr => first | (go_simp; done) | (go_simp; rfl)); intro w27 hw; have hg : w25.grownBy w27 (some go20) := (by rw [hw]; exact HP26.2); have hp_ : Kd.R (Kd.int .i64) 3 w27 w.heap.size (fun k_ => some k_ ≠ (.slice Ao24 y320.length co24 : Value).ownBlock) (.slice (some ⟨go20, 0, none⟩) x3_1.length co20) y326 := (by rw [hw, Ny326.out]; exact HP26.1); clear HP26; have n0_ := Aside0.mk (hp_); have n1_ := Aside0.mk (IsS107.grown (si HI0.out) hg (IsS107.own_ne HI0.out HO_3.out (by decide))); have n2_ := Aside0.mk (Kd.R_after (v := (.slice (some ⟨go20, 0, none⟩) x3_1.length co20)) (v1 := (.slice (some ⟨go20, 0, none⟩) x3_1.length co20)) (ok := (fun _ => True)) (kr HO322.out) hg (.inl rfl)); have n3_ := Aside0.mk ((by rw [hw]; exact below_set (HB.out) (Nat.le_trans HL.out GB20.out) : Below w0.heap.size w0 w27)); have n4_ := Aside0.mk (KeepBut.trans (kp HK.out) (KeepBut.of_grown hg g) (Kd.R_base2 HO_3.out)); clear HO_3; clear HI0; clear HO322; clear HB; clear HK; have HO_3 := n0_; have HI0 := n1_; have HO322 := n2_; have HB := n3_; have HK := n4_; clear n0_ n1_ n2_ n3_ n4_; clear hg hw hp_))
         go_roundg k1
         case measure => have := HK1.out; omega
         case rel => exact ⟨(y326), (wrap64 (x4_1 + 1)), (t324), (t325), (by first | rfl | (simp; done) | (simp [*]; done)), H', ⟨by have := HK1.out; omega⟩, ⟨kr (Kd.R_mono HO_3.out (fun _ hk => trivial))⟩, ⟨si HI0.out⟩, ⟨kp HK.out⟩, ⟨bi HB.out⟩⟩
        ·rw [if_neg c19] at H
         exact absurd H (by simp)
       ·rw [if_neg c18] at H
        exact absurd H (by simp)
      ·rw [if_neg c16] at H
       have c16b0 : (t313 == 1) = false := beq_eq_false_iff_ne.mpr c16
       have c16b1 : (t313 != 1) = true := bne_iff_ne.mpr c16
       by_cases c28 : t313 = 2
       ·rw [if_pos c28] at H
        have c28b0 : (t313 == 2) = true := beq_iff_eq.mpr c28
        have c28b1 : (t313 != 2) = false := bne_eq_false_iff_eq.mpr c28
        clear c28
        replace H := Option.bind_eq_some_iff.mp H
        obtain ⟨⟨t327, t328, t329⟩, A290, H⟩ := H
        replace H : (if 0 ≤ x4_1 then (if x4_1 < (x3_1.length : Int) then (spec_l2DrawBank.l0 k1 (x3_1.set (x4_1 : Int).toNat t327) (wrap64 (x4_1 + 1)) s0_0 t328 t329) else (none)) else (none)) = some (r1, r2, r3) := H
        have A29 := Aside0.mk A290
        clear A290
        by_cases c30 : 0 ≤ x4_1
        ·rw [if_pos c30] at H
         have c30b0 : decide (0 ≤ x4_1) = true := decide_eq_true c30
         clear c30
         by_cases c31 : x4_1 < (x3_1.length : Int)
         ·rw [if_pos c31] at H
          have c31b0 : decide (x4_1 < (x3_1.length : Int)) = true := decide_eq_true c31
          clear c31
          obtain ⟨y330, hy330⟩ : ∃ y_ : List Int, y_ = (x3_1.set (x4_1 : Int).toNat t327) := ⟨_, rfl⟩
          replace H : (spec_l2DrawBank.l0 k1 y330 (wrap64 (x4_1 + 1)) s0_0 t328 t329) = some (r1, r2, r3) := by first | (rw [hy330]; with_reducible exact H) | (have H2_ := (Option.bind_some _ _).symm.trans H; rw [hy330]; with_reducible exact H2_) | (have H2_ := (Option.bind_some _ _).symm.trans H; with_reducible exact H2_) | with_reducible exact H | (rw [hy330]; exact H) | exact H
          have Ny330 := Aside0.mk hy330
          clear hy330
          have H' := Aside0.mk H
          clear H
          go_wp2_with (first | ((with_reducible refine gate_callee (f := 60) rfl ?_); refine goesM_ (some 11) rfl rfl Try.func60 #[.pointer (some ⟨g, 0, none⟩), .int .i64 4] ?_; (with_reducible refine (spec_l1Below.calls g s0_0 x1001_1 x1002_1 4 t313 t314 t315 w0 _ ?side1 ?side2 A6.out).mono ?_); (case side1 => exact si HI0.out); (case side2 => exact bi HB.out); rintro e w33 ⟨rfl, hi, hb, hk⟩; refine ⟨_, rfl, ?_⟩; replace HO_3 := Aside0.mk (Kd.R_mono (Kd.R_keep (IsS107.apart (show IsS107 w0 _ g s0_0 x1001_1 x1002_1 from si HI0.out) (kr HO_3.out) (by decide)) hk (fun _ h => h.2)) (fun _ h => h.1)); replace HK := Aside0.mk (KeepBut.trans (kp HK.out) hk (.inl rfl)); replace HB := Aside0.mk (hb); replace HI0 := Aside0.mk (hi); (try clear hb); (try clear hb2); (try clear hk); (try clear hi)) | ((with_reducible refine gate_callee (f := 60) rfl ?_); refine goesM_ (some 32) rfl rfl Try.func60 #[.pointer (some ⟨g, 0, none⟩), .int .i64 256] ?_; (with_reducible refine (spec_l1Below.calls g s0_0 t314 t315 256 t327 t328 t329 w0 _ ?side1 ?side2 A29.out).mono ?_); (case side1 => exact si HI0.out); (case side2 => exact bi HB.out); rintro e w34 ⟨rfl, hi, hb, hk⟩; refine ⟨_, rfl, ?_⟩; replace HO_3 := Aside0.mk (Kd.R_mono (Kd.R_keep (IsS107.apart (show IsS107 w0 _ g s0_0 t314 t315 from si HI0.out) (kr HO_3.out) (by decide)) hk (fun _ h => h.2)) (fun _ h => h.1)); replace HK := Aside0.mk (KeepBut.trans (kp HK.out) hk (.inl rfl)); replace HB := Aside0.mk (hb); replace HI0 := Aside0.mk (hi); (try clear hb); (try clear hb2); (try clear hk); (try clear hi); have p32 : 0 ≤ (x4_1 : Int) := dt; have q32 : (x4_1 : Int) < ((x3_1.length : Int) : Int) := dt; obtain ⟨go32, co32, eo32, gb32, gl32, cl32, HG32⟩ := Kd.R_form HO_3.out (by omega); (first | cases eo32 | (injection eo32 with ea_ en_ ec_; (first | subst ea_ | (injection ea_ with ea_; subst ea_)); subst ec_; clear en_)); have GB32 := Aside0.mk gb32; have GG32 := Aside0.mk HG32; clear gb32 gl32 HG32; obtain ⟨hx32_0, hf32_0⟩ := Kd.R_celln 0 HO_3.out (x4_1 : Int) p32 q32; replace p32 := eq_true p32; replace q32 := eq_true q32; obtain ⟨hy35_, hz35_⟩ := Kd.R_celln 0 HO_3.out (x4_1 : Int) dt dt; have HP35 := Kd.R_putg HO_3.out (x4_1 : Int) t327) | ((with_reducible refine gate_store (t := 3) (p := 33) rfl ?_); refine store_event (t := 3) (p := 33) (v := ?vo_w36) (w1 := (w34.setCell ⟨go32, (x4_1 : Int).toNat, none⟩ (.int .i64 t327))) ?hg ?ho ?hn ?hr ?_; (case ho => rfl); (case hg => rfl); (case hn => rfl); (case hr => first | (go_simp; done) | (go_simp; rfl)); intro w36 hw; have hg : w34.grownBy w36 (some go32) := (by rw [hw]; exact HP35.2); have hp_ : Kd.R (Kd.int .i64) 3 w36 w.heap.size (fun _ => True) (.slice (some ⟨go32, 0, none⟩) x3_1.length co32) y330 := (by rw [hw, Ny330.out]; exact HP35.1); clear HP35; have n0_ := Aside0.mk (hp_); have n1_ := Aside0.mk (IsS107.grown (si HI0.out) hg (IsS107.own_ne HI0.out HO_3.out (by decide))); have n2_ := Aside0.mk ((by rw [hw]; exact below_set (HB.out) (Nat.le_trans HL.out GB32.out) : Below w0.heap.size w0 w36)); have n3_ := Aside0.mk (KeepBut.trans (kp HK.out) (KeepBut.of_grown hg g) (Kd.R_base2 HO_3.out)); clear HO_3; clear HI0; clear HB; clear HK; have HO_3 := n0_; have HI0 := n1_; have HB := n2_; have HK := n3_; clear n0_ n1_ n2_ n3_; clear hg hw hp_))
          go_roundg k1
          case measure => have := HK1.out; omega
          case rel => exact ⟨(y330), (wrap64 (x4_1 + 1)), (t328), (t329), (by first | rfl | (simp; done) | (simp [*]; done)), H', ⟨by have := HK1.out; omega⟩, ⟨kr HO_3.out⟩, ⟨si HI0.out⟩, ⟨kp HK.out⟩, ⟨bi HB.out⟩⟩
         ·rw [if_neg c31] at H
          exact absurd H (by simp)
        ·rw [if_neg c30] at H
         exact absurd H (by simp)
       ·rw [if_neg c28] at H
        have c28b0 : (t313 == 2) = false := beq_eq_false_iff_ne.mpr c28
        have c28b1 : (t313 != 2) = true := bne_iff_ne.mpr c28
        have H' := Aside0.mk H
        clear H
        go_wp2_with (first | ((with_reducible refine gate_callee (f := 60) rfl ?_); refine goesM_ (some 11) rfl rfl Try.func60 #[.pointer (some ⟨g, 0, none⟩), .int .i64 4] ?_; (with_reducible refine (spec_l1Below.calls g s0_0 x1001_1 x1002_1 4 t313 t314 t315 w0 _ ?side1 ?side2 A6.out).mono ?_); (case side1 => exact si HI0.out); (case side2 => exact bi HB.out); rintro e w37 ⟨rfl, hi, hb, hk⟩; refine ⟨_, rfl, ?_⟩; replace HO_3 := Aside0.mk (Kd.R_mono (Kd.R_keep (IsS107.apart (show IsS107 w0 _ g s0_0 x1001_1 x1002_1 from si HI0.out) (kr HO_3.out) (by decide)) hk (fun _ h => h.2)) (fun _ h => h.1)); replace HK := Aside0.mk (KeepBut.trans (kp HK.out) hk (.inl rfl)); replace HB := Aside0.mk (hb); replace HI0 := Aside0.mk (hi); (try clear hb); (try clear hb2); (try clear hk); (try clear hi)))
        go_roundg k1
        case measure => have := HK1.out; omega
        case rel => exact ⟨(x3_1), (wrap64 (x4_1 + 1)), (t314), (t315), (by first | rfl | (simp; done) | (simp [*]; done)), H', ⟨by have := HK1.out; omega⟩, ⟨kr HO_3.out⟩, ⟨si HI0.out⟩, ⟨kp HK.out⟩, ⟨bi HB.out⟩⟩
    ·rw [if_neg c5] at H
     have c5b0 : decide (x4_1 < 256) = false := decide_eq_false c5
     clear c5
     simp only [Option.some.injEq, Prod.mk.injEq] at H
     obtain ⟨rfl, rfl, rfl⟩ := H
     go_wp2
     go_ret
     exact ⟨_, rt, kr HO_3.out, si HI0.out, bi HB.out, kp HK.out⟩
 ·rw [if_neg c2] at H
  exact absurd H (by simp)

/-! ### spec_Byte: function 71 -/
def spec_Byte.f (a0 : Int) : Option (Int) := some (Go.bits .and .i64 a0 255)
set_option maxHeartbeats 8000000 in
set_option maxRecDepth 100000 in
theorem spec_Byte.calls (a0 : Int) (r : Int) (w : World) (h : spec_Byte.f a0 = some r) :
  Calls Try.prog 71 #[.int .i64 a0] w fun e w' => e = .returned (.int .i64 r) ∧ Drawn0 w w' := by
 have H : (some (Go.bits .and .i64 a0 255)) = some r := h
 clear h
 obtain rfl := Option.some.inj H
 go_enter Try.func71, Try.ntmps71
 go_wp2
 go_ret
 exact ⟨by first | rfl | (simp; done) | (simp [*]; done), by repeat (first | exact Drawn0.refl _ | apply Drawn0.step)⟩

/-! ### spec_OpLen: function 81 -/
def spec_OpLen.f (a0 : Int) : Option (Int) := (spec_l1In.f a0 0 29).bind fun t331 => (if t331 = true then ((some (([1, 2, 3, 3, 2, 2, 2, 2, 2, 2, 1, 1, 1, 1, 3, 3, 3, 3, 3, 3, 3, 1, 1, 1, 1, 1, 1, 1, 1, 3] : List Int) : List Int)).bind fun y332 => (if 0 ≤ a0 then (if a0 < (y332.length : Int) then (some (rd y332 a0)) else (none)) else (none))) else (some 1))
set_option maxHeartbeats 8000000 in
set_option maxRecDepth 100000 in
theorem spec_OpLen.calls (a0 : Int) (r : Int) (w : World) (h : spec_OpLen.f a0 = some r) :
  Calls Try.prog 81 #[.int .i64 a0] w fun e w' => e = .returned (.int .i64 r) ∧ Below w.heap.size w w' := by
 have HB := Aside0.mk (Below.refl w.heap.size w)
 have H : ((spec_l1In.f a0 0 29).bind fun t331 => (if t331 = true then ((some (([1, 2, 3, 3, 2, 2, 2, 2, 2, 2, 1, 1, 1, 1, 3, 3, 3, 3, 3, 3, 3, 1, 1, 1, 1, 1, 1, 1, 1, 3] : List Int) : List Int)).bind fun y332 => (if 0 ≤ a0 then (if a0 < (y332.length : Int) then (some (rd y332 a0)) else (none)) else (none))) else (some 1))) = some r := h
 clear h
 replace H := Option.bind_eq_some_iff.mp H
 obtain ⟨t331, A20, H⟩ := H
 replace H : (if t331 = true then ((some (([1, 2, 3, 3, 2, 2, 2, 2, 2, 2, 1, 1, 1, 1, 3, 3, 3, 3, 3, 3, 3, 1, 1, 1, 1, 1, 1, 1, 1, 3] : List Int) : List Int)).bind fun y332 => (if 0 ≤ a0 then (if a0 < (y332.length : Int) then (some (rd y332 a0)) else (none)) else (none))) else (some 1)) = some r := H
 have A2 := Aside0.mk A20
 clear A20
 by_cases c3 : t331 = true
 ·subst c3
  have H1 : ((some (([1, 2, 3, 3, 2, 2, 2, 2, 2, 2, 1, 1, 1, 1, 3, 3, 3, 3, 3, 3, 3, 1, 1, 1, 1, 1, 1, 1, 1, 3] : List Int) : List Int)).bind fun y332 => (if 0 ≤ a0 then (if a0 < (y332.length : Int) then (some (rd y332 a0)) else (none)) else (none))) = some r := by rw [if_pos rfl] at H; exact H
  clear H
  have H := H1
  clear H1
  obtain ⟨y332, hy332⟩ : ∃ y_ : List Int, y_ = (([1, 2, 3, 3, 2, 2, 2, 2, 2, 2, 1, 1, 1, 1, 3, 3, 3, 3, 3, 3, 3, 1, 1, 1, 1, 1, 1, 1, 1, 3] : List Int)) := ⟨_, rfl⟩
  replace H : (if 0 ≤ a0 then (if a0 < (y332.length : Int) then (some (rd y332 a0)) else (none)) else (none)) = some r := by first | (rw [hy332]; with_reducible exact H) | (have H2_ := (Option.bind_some _ _).symm.trans H; rw [hy332]; with_reducible exact H2_) | (have H2_ := (Option.bind_some _ _).symm.trans H; with_reducible exact H2_) | with_reducible exact H | (rw [hy332]; exact H) | exact H
  have Ny332 := Aside0.mk hy332
  clear hy332
  by_cases c4 : 0 ≤ a0
  ·rw [if_pos c4] at H
   have c4b0 : decide (0 ≤ a0) = true := decide_eq_true c4
   clear c4
   by_cases c5 : a0 < (y332.length : Int)
   ·rw [if_pos c5] at H
    have c5b0 : decide (a0 < (y332.length : Int)) = true := decide_eq_true c5
    clear c5
    obtain rfl := Option.some.inj H
    go_enter Try.func81, Try.ntmps81
    go_wp2_with (first | ((with_reducible refine gate_callee (f := 68) rfl ?_); refine goesM_ (some 4) rfl rfl Try.func68 #[.int .i64 a0, .int .i64 0, .int .i64 29] ?_; (with_reducible refine (spec_l1In.calls a0 0 29 true _ A2.out).mono ?_); rintro e w' ⟨rfl, ⟨nd, rfl⟩⟩; refine ⟨_, rfl, ?_⟩) | ((with_reducible refine gate_dst (N := 6) rfl ?_); refine Kd.R_lit (Kd.int .i64) _ 3 ?hg (N := 6) ?hd (xs := ([1, 2, 3, 3, 2, 2, 2, 2, 2, 2, 1, 1, 1, 1, 3, 3, 3, 3, 3, 3, 3, 1, 1, 1, 1, 1, 1, 1, 1, 3] : List Int)) (inner := [.int .i64 1, .int .i64 2, .int .i64 3, .int .i64 3, .int .i64 2, .int .i64 2, .int .i64 2, .int .i64 2, .int .i64 2, .int .i64 2, .int .i64 1, .int .i64 1, .int .i64 1, .int .i64 1, .int .i64 3, .int .i64 3, .int .i64 3, .int .i64 3, .int .i64 3, .int .i64 3, .int .i64 3, .int .i64 1, .int .i64 1, .int .i64 1, .int .i64 1, .int .i64 1, .int .i64 1, .int .i64 1, .int .i64 1, .int .i64 3]) (ok := fun _ => True) (okp := fun _ => True) ?hr ?hp (fun _ hk => hk) trivial (Below.refl _ _) (Nat.le_refl _) (by simp) ?_; (case hd => rfl); (case hg => rfl); (case hr => first | (go_simp; done) | (go_simp; rfl)); (case hp => exact (reI _)); intro v333 w6 ho7 hb hg_ hnew_; clear hg_ hnew_; (first | rw [← Ny332.out] at ho7 | (simp only [Int.reduceToNat] at ho7; rw [← Ny332.out] at ho7)); have HO334 := Aside0.mk (Kd.R_lower ho7 (below_size (bw HB.out))); replace HB := Aside0.mk (below_step (bw HB.out) hb); clear hb ho7; obtain ⟨Ao8, co8, eo8⟩ := Kd.R_slice HO334.out; subst eo8; have p335 : 0 ≤ (a0 : Int) := dt; have q335 : a0 < (y332.length : Int) := dt; obtain ⟨ad335, e335, hx335_0⟩ := Kd.at_int (Kd.R_reads' HO334.out).2.2 a0 p335 q335; cases e335; replace p335 := eq_true p335; replace q335 := eq_true q335))
    go_ret
    exact ⟨rt, bw HB.out⟩
   ·rw [if_neg c5] at H
    exact absurd H (by simp)
  ·rw [if_neg c4] at H
   exact absurd H (by simp)
 ·replace c3 := Bool.eq_false_iff.mpr c3
  subst c3
  have H1 : (some 1) = some r := by rw [if_neg (show ¬ (false = true) by decide)] at H; exact H
  clear H
  have H := H1
  clear H1
  obtain rfl := Option.some.inj H
  go_enter Try.func81, Try.ntmps81
  go_wp2_with (first | ((with_reducible refine gate_callee (f := 68) rfl ?_); refine goesM_ (some 4) rfl rfl Try.func68 #[.int .i64 a0, .int .i64 0, .int .i64 29] ?_; (with_reducible refine (spec_l1In.calls a0 0 29 false _ A2.out).mono ?_); rintro e w' ⟨rfl, ⟨nd, rfl⟩⟩; refine ⟨_, rfl, ?_⟩))
  go_ret
  exact ⟨rt, bw HB.out⟩

/-! ### spec_l4Digits: function 133 -/
def spec_l4Digits.l0 : Nat → Int → ByteArray → Option (ByteArray)
 | 0, _, _ => none
 | k + 1, x0, x3 => if x0 > 0 then ((some (([(wrap64 (48 + (Int.tmod x0 10))) % 256] : List Int) : List Int)).bind fun y336 => (if (strOfNums y336).size + x3.size ≤ 9223372036854775807 then (spec_l4Digits.l0 k (wrap64 (Int.tdiv x0 10)) ((strOfNums y336) ++ x3)) else (none))) else (some x3)
def spec_l4Digits.f (k : Nat) (a0 : Int) : Option (ByteArray) := if a0 = 0 then (some (⟨#[48]⟩ : ByteArray)) else (spec_l4Digits.l0 k a0 (⟨#[]⟩ : ByteArray))
set_option maxHeartbeats 8000000 in
set_option maxRecDepth 100000 in
theorem spec_l4Digits.calls (k : Nat) (a0 : Int) (r : ByteArray) (w : World) (h : spec_l4Digits.f k a0 = some r) :
  Calls Try.prog 133 #[.int .i64 a0] w fun e w' => e = .returned (.string r) ∧ Below w.heap.size w w' := by
 have HB := Aside0.mk (Below.refl w.heap.size w)
 have H : (if a0 = 0 then (some (⟨#[48]⟩ : ByteArray)) else (spec_l4Digits.l0 k a0 (⟨#[]⟩ : ByteArray))) = some r := h
 clear h
 by_cases c2 : a0 = 0
 ·rw [if_pos c2] at H
  have c2b0 : (a0 == 0) = true := beq_iff_eq.mpr c2
  have c2b1 : (a0 != 0) = false := bne_eq_false_iff_eq.mpr c2
  clear c2
  obtain rfl := Option.some.inj H
  go_enter Try.func133, Try.ntmps133
  go_wp2
  go_ret
  exact ⟨rt, bw HB.out⟩
 ·rw [if_neg c2] at H
  have c2b0 : (a0 == 0) = false := beq_eq_false_iff_ne.mpr c2
  have c2b1 : (a0 != 0) = true := bne_iff_ne.mpr c2
  have H' := Aside0.mk H
  clear H
  go_enter Try.func133, Try.ntmps133
  go_wp2
  go_loopg [0, 3] k (fun kq v0 v3 w' => ∃ (x0_1 : Int) (x3_1 : ByteArray), v0 = .int .i64 x0_1 ∧ v3 = .string x3_1 ∧ Aside0 (spec_l4Digits.l0 kq x0_1 x3_1 = some r) ∧ Aside0 (kq ≤ k) ∧ Aside0 (Below w.heap.size w w'))
  case atStart => exact ⟨(a0), ((⟨#[]⟩ : ByteArray)), (by first | rfl | (simp; done) | (simp [*]; done)), (by first | rfl | (simp; done) | (simp [*]; done)), H', ⟨Nat.le_refl _⟩, ⟨bw HB.out⟩⟩
  case round =>
   clear H'
   (try clear c1); (try clear c2); (try clear c2b0); (try clear c2b1); (try clear p2)
   obtain ⟨x0_1, x3_1, rfl, rfl, HA, HK1, HB⟩ := hrel
   cases gk with
   | zero => exact absurd HA.out (by simp [spec_l4Digits.l0])
   | succ k1 =>
    have H := HA.out
    clear HA
    simp only [spec_l4Digits.l0] at H
    by_cases c3 : x0_1 > 0
    ·rw [if_pos c3] at H
     have c3b0 : decide (0 < x0_1) = true := decide_eq_true c3
     clear c3
     obtain ⟨y336, hy336⟩ : ∃ y_ : List Int, y_ = (([(wrap64 (48 + (Int.tmod x0_1 10))) % 256] : List Int)) := ⟨_, rfl⟩
     replace H : (if (strOfNums y336).size + x3_1.size ≤ 9223372036854775807 then (spec_l4Digits.l0 k1 (wrap64 (Int.tdiv x0_1 10)) ((strOfNums y336) ++ x3_1)) else (none)) = some r := by first | (rw [hy336]; with_reducible exact H) | (have H2_ := (Option.bind_some _ _).symm.trans H; rw [hy336]; with_reducible exact H2_) | (have H2_ := (Option.bind_some _ _).symm.trans H; with_reducible exact H2_) | with_reducible exact H | (rw [hy336]; exact H) | exact H
     have Ny336 := Aside0.mk hy336
     clear hy336
     by_cases c4 : (strOfNums y336).size + x3_1.size ≤ 9223372036854775807
     ·rw [if_pos c4] at H
      have c4b0 := eq_true c4
      have c4b1 : decide ((strOfNums y336).size + x3_1.size ≤ 9223372036854775807) = true := decide_eq_true c4
      try have c4b2 : (9223372036854775807 < (strOfNums y336).size + x3_1.size) = False := eq_false (Nat.not_lt.2 c4)
      have H' := Aside0.mk H
      clear H
      go_wp2_with (first | ((with_reducible refine gate_dst (N := 12) rfl ?_); refine Kd.R_lit (Kd.int .u8) _ 5 ?hg (N := 12) ?hd (xs := ([(wrap64 (48 + (Int.tmod x0_1 10))) % 256] : List Int)) (inner := [.int .u8 ((wrap64 (48 + (Int.tmod x0_1 10))) % 256)]) (ok := fun _ => True) (okp := fun _ => True) ?hr ?hp (fun _ hk => hk) trivial (Below.refl _ _) (Nat.le_refl _) (by simp) ?_; (case hd => rfl); (case hg => rfl); (case hr => first | (go_simp; done) | (go_simp; rfl)); (case hp => exact (reI _)); intro v337 w5 ho6 hb hg_ hnew_; clear hg_ hnew_; (first | rw [← Ny336.out] at ho6 | (simp only [Int.reduceToNat] at ho6; rw [← Ny336.out] at ho6)); have HO338 := Aside0.mk (Kd.R_lower ho6 (below_size (bw HB.out))); replace HB := Aside0.mk (below_step (bw HB.out) hb); clear hb ho6; have hcv7 := own_string (P := Try.prog) Try.underlying22 Try.underlying5 Try.underlying9 (Kd.own_of_R HO338.out)))
      go_roundg k1
      case measure => have := HK1.out; omega
      case rel => exact ⟨(wrap64 (Int.tdiv x0_1 10)), ((strOfNums y336) ++ x3_1), (by first | rfl | (simp; done) | (simp [*]; done)), (by first | rfl | (simp; done) | (simp [*]; done)), H', ⟨by have := HK1.out; omega⟩, ⟨bw HB.out⟩⟩
     ·rw [if_neg c4] at H
      exact absurd H (by simp)
    ·rw [if_neg c3] at H
     have c3b0 : decide (0 < x0_1) = false := decide_eq_false c3
     clear c3
     obtain rfl := Option.some.inj H
     go_wp2
     go_ret
     exact ⟨rt, bw HB.out⟩

/-! ### spec_l4Num: function 131 -/
mutual
def spec_l4Num.j0 : Nat → ByteArray → Bool → Option (Int)
 | 0, _, _ => none
 | k + 1, x0, x11 => if x11 = true then (some (-1)) else (spec_l4Num.l0 k x0 0 0)
def spec_l4Num.l0 : Nat → ByteArray → Int → Int → Option (Int)
 | 0, _, _, _ => none
 | k + 1, x0, x3, x4 => if x4 < (x0.size : Int) then (if 0 ≤ x4 then (if (bt x0 x4) < 48 then (some (-1)) else (if (bt x0 x4) > 57 then (some (-1)) else (spec_l4Num.l0 k x0 (wrap64 ((wrap64 ((wrap64 (10 * x3)) + (wrap64 (bt x0 x4)))) - 48)) (wrap64 (x4 + 1))))) else (none)) else ((spec_l4Digits.f k x3).bind fun t339 => (if t339.toList = x0.toList then (some x3) else (some (-1))))
end
def spec_l4Num.f (k : Nat) (a0 : ByteArray) : Option (Int) := if a0.toList = ([] : List UInt8) then (spec_l4Num.j0 k a0 true) else (spec_l4Num.j0 k a0 (decide ((a0.size : Int) > 5)))
set_option maxHeartbeats 8000000 in
set_option maxRecDepth 100000 in
theorem spec_l4Num.calls (k : Nat) (a0 : ByteArray) (r : Int) (w : World) (h : spec_l4Num.f k a0 = some r) :
  Calls Try.prog 131 #[.string a0] w fun e w' => e = .returned (.int .i64 r) ∧ Below w.heap.size w w' := by
 have HB := Aside0.mk (Below.refl w.heap.size w)
 have H : (if a0.toList = ([] : List UInt8) then (spec_l4Num.j0 k a0 true) else (spec_l4Num.j0 k a0 (decide ((a0.size : Int) > 5)))) = some r := h
 clear h
 have HC2 := Aside0.mk H
 clear H
 go_enter Try.func131, Try.ntmps131
 go_upto_region 1 with (fail)
 go_cut [11] (fun v11 wc => ∃ (kq : Nat) (x11_1 : Bool), v11 = .bool x11_1 ∧ Aside0 (spec_l4Num.j0 kq a0 x11_1 = some r) ∧ Aside0 (kq ≤ k) ∧ Aside0 (Below w.heap.size w wc))
 case first =>
  have H := HC2.out
  clear HC2
  by_cases c3 : a0.toList = ([] : List UInt8)
  ·rw [if_pos c3] at H
   have c3b0 : (a0.toList == ([] : List UInt8)) = true := beq_iff_eq.mpr c3
   have c3b1 : (a0.toList != ([] : List UInt8)) = false := bne_eq_false_iff_eq.mpr c3
   clear c3
   (first | rw [c3b0] | (simp only [i64_w, i32_w]; rw [c3b0]) | skip)
   have H' := Aside0.mk H
   clear H
   go_wp2
   go_meet
   case rel => exact ⟨_, (true), (by first | rfl | (simp; done) | (simp [*]; done)), H', ⟨by first | omega | exact Nat.le_refl _⟩, ⟨bw HB.out⟩⟩
  ·rw [if_neg c3] at H
   have c3b0 : (a0.toList == ([] : List UInt8)) = false := beq_eq_false_iff_ne.mpr c3
   have c3b1 : (a0.toList != ([] : List UInt8)) = true := bne_iff_ne.mpr c3
   (first | rw [c3b0] | (simp only [i64_w, i32_w]; rw [c3b0]) | skip)
   have H' := Aside0.mk H
   clear H
   go_wp2
   go_meet
   case rel => exact ⟨_, (decide ((a0.size : Int) > 5)), (by first | rfl | (simp; done) | (simp [*]; done)), H', ⟨by first | omega | exact Nat.le_refl _⟩, ⟨bw HB.out⟩⟩
 case rest =>
  clear HC2; (try clear c1); (try clear p2); (try clear c3); (try clear c3b0); (try clear c3b1)
  obtain ⟨kq, x11_1, rfl, HA, HJ1, HB⟩ := hcut
  cases kq with
  | zero => exact absurd HA.out (by simp [spec_l4Num.j0])
  | succ kj1 =>
   have H := HA.out
   clear HA
   simp only [spec_l4Num.j0] at H
   by_cases c4 : x11_1 = true
   ·subst c4
    have H1 : (some (-1)) = some r := by rw [if_pos rfl] at H; exact H
    clear H
    have H := H1
    clear H1
    obtain rfl := Option.some.inj H
    go_wp2
    go_ret
    exact ⟨rt, bw HB.out⟩
   ·replace c4 := Bool.eq_false_iff.mpr c4
    subst c4
    have H1 : (spec_l4Num.l0 kj1 a0 0 0) = some r := by rw [if_neg (show ¬ (false = true) by decide)] at H; exact H
    clear H
    have H := H1
    clear H1
    have H' := Aside0.mk H
    clear H
    go_wp2
    go_loopg [3, 4] kj1 (fun kq v3 v4 w' => ∃ (x3_2 : Int) (x4_2 : Int), v3 = .int .i64 x3_2 ∧ v4 = .int .i64 x4_2 ∧ Aside0 (spec_l4Num.l0 kq a0 x3_2 x4_2 = some r) ∧ Aside0 (kq ≤ kj1) ∧ Aside0 (Below w.heap.size w w'))
    case atStart => exact ⟨(0), (0), (by first | rfl | (simp; done) | (simp [*]; done)), (by first | rfl | (simp; done) | (simp [*]; done)), H', ⟨Nat.le_refl _⟩, ⟨bw HB.out⟩⟩
    case round =>
     clear H'
     (try clear c1); (try clear p2); (try clear c3); (try clear c3b0); (try clear c3b1); (try clear c4); (try clear p2)
     obtain ⟨x3_2, x4_2, rfl, rfl, HA, HK2, HB⟩ := hrel
     cases gk with
     | zero => exact absurd HA.out (by simp [spec_l4Num.l0])
     | succ k2 =>
      have H := HA.out
      clear HA
      simp only [spec_l4Num.l0] at H
      by_cases c5 : x4_2 < (a0.size : Int)
      ·rw [if_pos c5] at H
       have c5b0 : decide (x4_2 < (a0.size : Int)) = true := decide_eq_true c5
       clear c5
       by_cases c6 : 0 ≤ x4_2
       ·rw [if_pos c6] at H
        have c6b0 : decide (0 ≤ x4_2) = true := decide_eq_true c6
        clear c6
        by_cases c8 : (bt a0 x4_2) < 48
        ·rw [if_pos c8] at H
         have c8b0 : decide ((bt a0 x4_2) < 48) = true := decide_eq_true c8
         clear c8
         obtain rfl := Option.some.inj H
         have p7 : 0 ≤ (x4_2 : Int) := dt
         have q7 : x4_2 < (a0.size : Int) := dt
         have hx7 := bt_at a0 x4_2
         replace p7 := eq_true p7
         replace q7 := eq_true q7
         go_wp2
         go_ret
         exact ⟨rt, bw HB.out⟩
        ·rw [if_neg c8] at H
         have c8b0 : decide ((bt a0 x4_2) < 48) = false := decide_eq_false c8
         clear c8
         by_cases c10 : (bt a0 x4_2) > 57
         ·rw [if_pos c10] at H
          have c10b0 : decide (57 < (bt a0 x4_2)) = true := decide_eq_true c10
          clear c10
          obtain rfl := Option.some.inj H
          have p7 : 0 ≤ (x4_2 : Int) := dt
          have q7 : x4_2 < (a0.size : Int) := dt
          have hx7 := bt_at a0 x4_2
          replace p7 := eq_true p7
          replace q7 := eq_true q7
          have p9 : 0 ≤ (x4_2 : Int) := dt
          have q9 : x4_2 < (a0.size : Int) := dt
          have hx9 := bt_at a0 x4_2
          replace p9 := eq_true p9
          replace q9 := eq_true q9
          go_wp2
          go_ret
          exact ⟨rt, bw HB.out⟩
         ·rw [if_neg c10] at H
          have c10b0 : decide (57 < (bt a0 x4_2)) = false := decide_eq_false c10
          clear c10
          have H' := Aside0.mk H
          clear H
          have p7 : 0 ≤ (x4_2 : Int) := dt
          have q7 : x4_2 < (a0.size : Int) := dt
          have hx7 := bt_at a0 x4_2
          replace p7 := eq_true p7
          replace q7 := eq_true q7
          have p9 : 0 ≤ (x4_2 : Int) := dt
          have q9 : x4_2 < (a0.size : Int) := dt
          have hx9 := bt_at a0 x4_2
          replace p9 := eq_true p9
          replace q9 := eq_true q9
          have p11 : 0 ≤ (x4_2 : Int) := dt
          have q11 : x4_2 < (a0.size : Int) := dt
          have hx11 := bt_at a0 x4_2
          replace p11 := eq_true p11
          replace q11 := eq_true q11
          go_wp2
          go_roundg k2
          case measure => have := HJ1.out; have := HK2.out; omega
          case rel => exact ⟨(wrap64 ((wrap64 ((wrap64 (10 * x3_2)) + (wrap64 (bt a0 x4_2)))) - 48)), (wrap64 (x4_2 + 1)), (by first | rfl | (simp; done) | (simp [*]; done)), (by first | rfl | (simp; done) | (simp [*]; done)), H', ⟨by have := HJ1.out; have := HK2.out; omega⟩, ⟨bw HB.out⟩⟩
       ·rw [if_neg c6] at H
        exact absurd H (by simp)
      ·rw [if_neg c5] at H
       have c5b0 : decide (x4_2 < (a0.size : Int)) = false := decide_eq_false c5
       clear c5
       replace H := Option.bind_eq_some_iff.mp H
       obtain ⟨t339, A120, H⟩ := H
       replace H : (if t339.toList = a0.toList then (some x3_2) else (some (-1))) = some r := H
       have A12 := Aside0.mk A120
       clear A120
       by_cases c13 : t339.toList = a0.toList
       ·rw [if_pos c13] at H
        have c13b0 : (t339.toList == a0.toList) = true := beq_iff_eq.mpr c13
        have c13b1 : (t339.toList != a0.toList) = false := bne_eq_false_iff_eq.mpr c13
        clear c13
        obtain rfl := Option.some.inj H
        go_wp2_with (first | ((with_reducible refine gate_callee (f := 133) rfl ?_); refine goesM_ (some 37) rfl rfl Try.func133 #[.int .i64 x3_2] ?_; (with_reducible refine (spec_l4Digits.calls k2 x3_2 t339 _ A12.out).mono ?_); rintro e w14 ⟨rfl, hb⟩; refine ⟨_, rfl, ?_⟩; replace HB := Aside0.mk (below_step (bw HB.out) hb); (try clear hb); (try clear hb2); (try clear hk); (try clear hi)))
        go_ret
        exact ⟨rt, bw HB.out⟩
       ·rw [if_neg c13] at H
        have c13b0 : (t339.toList == a0.toList) = false := beq_eq_false_iff_ne.mpr c13
        have c13b1 : (t339.toList != a0.toList) = true := bne_iff_ne.mpr c13
        obtain rfl := Option.some.inj H
        go_wp2_with (first | ((with_reducible refine gate_callee (f := 133) rfl ?_); refine goesM_ (some 37) rfl rfl Try.func133 #[.int .i64 x3_2] ?_; (with_reducible refine (spec_l4Digits.calls k2 x3_2 t339 _ A12.out).mono ?_); rintro e w15 ⟨rfl, hb⟩; refine ⟨_, rfl, ?_⟩; replace HB := Aside0.mk (below_step (bw HB.out) hb); (try clear hb); (try clear hb2); (try clear hk); (try clear hi)))
        go_ret
        exact ⟨rt, bw HB.out⟩

/-! ### spec_l4Line: function 129 -/
def spec_l4Line.l0 : Nat → ByteArray → Int → Option (ByteArray × Int × Bool)
 | 0, _, _ => none
 | k + 1, x0, x5 => if x5 < (x0.size : Int) then (if 0 ≤ x5 then (if (bt x0 x5) = 32 then (if 0 ≤ (wrap64 (x5 + 1)) then (if (wrap64 (x5 + 1)) ≤ (x0.size : Int) then ((spec_l4Num.f k (x0.extract ((wrap64 (x5 + 1)) : Int).toNat x0.size)).bind fun t340 => (if x5 ≤ (x0.size : Int) then (some (x0.extract 0 (x5 : Int).toNat, t340, decide (t340 ≥ 0))) else (none))) else (none)) else (none)) else (spec_l4Line.l0 k x0 (wrap64 (x5 + 1)))) else (none)) else (some (x0, (-1), true))
def spec_l4Line.f (k : Nat) (a0 : ByteArray) : Option (ByteArray × Int × Bool) := spec_l4Line.l0 k a0 0
set_option maxHeartbeats 8000000 in
set_option maxRecDepth 100000 in
theorem spec_l4Line.calls (k : Nat) (a0 : ByteArray) (r1 : ByteArray) (r2 : Int) (r3 : Bool) (w : World) (h : spec_l4Line.f k a0 = some (r1, r2, r3)) :
  Calls Try.prog 129 #[.string a0] w fun e w' => e = .returned (.tuple #[.string r1, .int .i64 r2, .bool r3]) ∧ Below w.heap.size w w' := by
 have HB := Aside0.mk (Below.refl w.heap.size w)
 have H : (spec_l4Line.l0 k a0 0) = some (r1, r2, r3) := h
 clear h
 have H' := Aside0.mk H
 clear H
 go_enter Try.func129, Try.ntmps129
 go_wp2
 go_loopg [5] k (fun kq v5 w' => ∃ (x5_1 : Int), v5 = .int .i64 x5_1 ∧ Aside0 (spec_l4Line.l0 kq a0 x5_1 = some (r1, r2, r3)) ∧ Aside0 (kq ≤ k) ∧ Aside0 (Below w.heap.size w w'))
 case atStart => exact ⟨(0), (by first | rfl | (simp; done) | (simp [*]; done)), H', ⟨Nat.le_refl _⟩, ⟨bw HB.out⟩⟩
 case round =>
  clear H'
  (try clear c1)
  obtain ⟨x5_1, rfl, HA, HK1, HB⟩ := hrel
  cases gk with
  | zero => exact absurd HA.out (by simp [spec_l4Line.l0])
  | succ k1 =>
   have H := HA.out
   clear HA
   simp only [spec_l4Line.l0] at H
   by_cases c2 : x5_1 < (a0.size : Int)
   ·rw [if_pos c2] at H
    have c2b0 : decide (x5_1 < (a0.size : Int)) = true := decide_eq_true c2
    clear c2
    by_cases c3 : 0 ≤ x5_1
    ·rw [if_pos c3] at H
     have c3b0 : decide (0 ≤ x5_1) = true := decide_eq_true c3
     clear c3
     by_cases c5 : (bt a0 x5_1) = 32
     ·rw [if_pos c5] at H
      have c5b0 : ((bt a0 x5_1) == 32) = true := beq_iff_eq.mpr c5
      have c5b1 : ((bt a0 x5_1) != 32) = false := bne_eq_false_iff_eq.mpr c5
      clear c5
      obtain ⟨ji6, hji6⟩ : ∃ j_ : Int, (wrap64 (x5_1 + 1)) = j_ := ⟨_, rfl⟩
      replace H : (if 0 ≤ (ji6) then (if (ji6) ≤ (a0.size : Int) then ((spec_l4Num.f k1 (a0.extract ((ji6) : Int).toNat a0.size)).bind fun t340 => (if x5_1 ≤ (a0.size : Int) then (some (a0.extract 0 (x5_1 : Int).toNat, t340, decide (t340 ≥ 0))) else (none))) else (none)) else (none)) = some (r1, r2, r3) := by first | (rw [hji6] at H; exact H) | (simp only [hji6] at H ⊢; exact H)
      have hji6w : (IntKind.i64.wrap (x5_1 + 1)) = ji6 := (i64_w _).trans hji6
      by_cases c7 : 0 ≤ (ji6)
      ·rw [if_pos c7] at H
       have c7b0 := eq_true c7
       have c7b1 : decide (0 ≤ (ji6)) = true := decide_eq_true c7
       clear c7
       by_cases c8 : (ji6) ≤ (a0.size : Int)
       ·rw [if_pos c8] at H
        have c8b0 := eq_true c8
        have c8b1 : decide ((ji6) ≤ (a0.size : Int)) = true := decide_eq_true c8
        clear c8
        replace H := Option.bind_eq_some_iff.mp H
        obtain ⟨t340, A90, H⟩ := H
        replace H : (if x5_1 ≤ (a0.size : Int) then (some (a0.extract 0 (x5_1 : Int).toNat, t340, decide (t340 ≥ 0))) else (none)) = some (r1, r2, r3) := H
        have A9 := Aside0.mk A90
        clear A90
        have c10b0 := eq_true (dt : 0 ≤ x5_1)
        by_cases c11 : x5_1 ≤ (a0.size : Int)
        ·rw [if_pos c11] at H
         have c11b0 := eq_true c11
         have c11b1 : decide (x5_1 ≤ (a0.size : Int)) = true := decide_eq_true c11
         clear c11
         simp only [Option.some.injEq, Prod.mk.injEq] at H
         obtain ⟨rfl, rfl, rfl⟩ := H
         have p4 : 0 ≤ (x5_1 : Int) := dt
         have q4 : x5_1 < (a0.size : Int) := dt
         have hx4 := bt_at a0 x5_1
         replace p4 := eq_true p4
         replace q4 := eq_true q4
         go_wp2_with (first | ((with_reducible refine gate_callee (f := 131) rfl ?_); refine goesL_ (some 21) rfl rfl Try.func131 (by kernel_rfl) rfl #[.string (a0.extract ((ji6) : Int).toNat a0.size)] rfl (by (try simp only [List.map_toArray, List.map_cons, List.map_nil]); first | done | (simp only [hji6]; rfl) | rfl | (simp only [List.length_drop, List.length_take]; rfl)) ?_; (with_reducible refine (spec_l4Num.calls k1 (a0.extract ((ji6) : Int).toNat a0.size) t340 _ A9.out).mono ?_); rintro e w12 ⟨rfl, hb⟩; refine ⟨_, rfl, ?_⟩; replace HB := Aside0.mk (below_step (bw HB.out) hb); (try clear hb); (try clear hb2); (try clear hk); (try clear hi)))
         go_ret3
         exact ⟨by first | rfl | (simp [errW_none, errW_some] <;> rfl) | (simp only [← hji6]; first | rfl | (simp [errW_none, errW_some] <;> rfl)) | (simp [*, errW_none, errW_some] <;> rfl), bw HB.out⟩
        ·rw [if_neg c11] at H
         exact absurd H (by simp)
       ·rw [if_neg c8] at H
        exact absurd H (by simp)
      ·rw [if_neg c7] at H
       exact absurd H (by simp)
     ·rw [if_neg c5] at H
      have c5b0 : ((bt a0 x5_1) == 32) = false := beq_eq_false_iff_ne.mpr c5
      have c5b1 : ((bt a0 x5_1) != 32) = true := bne_iff_ne.mpr c5
      have H' := Aside0.mk H
      clear H
      have p4 : 0 ≤ (x5_1 : Int) := dt
      have q4 : x5_1 < (a0.size : Int) := dt
      have hx4 := bt_at a0 x5_1
      replace p4 := eq_true p4
      replace q4 := eq_true q4
      go_wp2
      go_roundg k1
      case measure => have := HK1.out; omega
      case rel => exact ⟨(wrap64 (x5_1 + 1)), (by first | rfl | (simp; done) | (simp [*]; done)), H', ⟨by have := HK1.out; omega⟩, ⟨bw HB.out⟩⟩
    ·rw [if_neg c3] at H
     exact absurd H (by simp)
   ·rw [if_neg c2] at H
    have c2b0 : decide (x5_1 < (a0.size : Int)) = false := decide_eq_false c2
    clear c2
    simp only [Option.some.injEq, Prod.mk.injEq] at H
    obtain ⟨rfl, rfl, rfl⟩ := H
    go_wp2
    go_ret3
    exact ⟨rt, bw HB.out⟩

/-! ### spec_l3Names: function 132 -/
def spec_l3Names.f  : Option (List ByteArray) := some (([(⟨#[110, 111, 112]⟩ : ByteArray), (⟨#[108, 100, 105]⟩ : ByteArray), (⟨#[108, 100, 97]⟩ : ByteArray), (⟨#[115, 116, 97]⟩ : ByteArray), (⟨#[97, 100, 105]⟩ : ByteArray), (⟨#[115, 98, 105]⟩ : ByteArray), (⟨#[97, 110, 105]⟩ : ByteArray), (⟨#[111, 114, 105]⟩ : ByteArray), (⟨#[120, 114, 105]⟩ : ByteArray), (⟨#[99, 112, 105]⟩ : ByteArray), (⟨#[116, 97, 120]⟩ : ByteArray), (⟨#[116, 120, 97]⟩ : ByteArray), (⟨#[105, 110, 120]⟩ : ByteArray), (⟨#[100, 101, 120]⟩ : ByteArray), (⟨#[108, 97, 120]⟩ : ByteArray), (⟨#[115, 97, 120]⟩ : ByteArray), (⟨#[98, 110, 101]⟩ : ByteArray), (⟨#[98, 101, 113]⟩ : ByteArray), (⟨#[98, 99, 115]⟩ : ByteArray), (⟨#[106, 109, 112]⟩ : ByteArray), (⟨#[106, 115, 114]⟩ : ByteArray), (⟨#[114, 116, 115]⟩ : ByteArray), (⟨#[112, 104, 97]⟩ : ByteArray), (⟨#[112, 108, 97]⟩ : ByteArray), (⟨#[114, 116, 105]⟩ : ByteArray), (⟨#[115, 101, 105]⟩ : ByteArray), (⟨#[99, 108, 105]⟩ : ByteArray), (⟨#[115, 101, 99]⟩ : ByteArray), (⟨#[99, 108, 99]⟩ : ByteArray), (⟨#[97, 100, 97]⟩ : ByteArray)] : List ByteArray))
set_option maxHeartbeats 8000000 in
set_option maxRecDepth 100000 in
theorem spec_l3Names.calls  (r : List ByteArray) (w : World) (h : spec_l3Names.f  = some r) :
  Calls Try.prog 132 #[] w fun e w' => ∃ v0_ : Value, e = .returned (v0_) ∧ Kd.R Kd.string 9 w' w.heap.size (fun _ => True) v0_ r ∧ Below w.heap.size w w' := by
 have HB := Aside0.mk (Below.refl w.heap.size w)
 have H : (some (([(⟨#[110, 111, 112]⟩ : ByteArray), (⟨#[108, 100, 105]⟩ : ByteArray), (⟨#[108, 100, 97]⟩ : ByteArray), (⟨#[115, 116, 97]⟩ : ByteArray), (⟨#[97, 100, 105]⟩ : ByteArray), (⟨#[115, 98, 105]⟩ : ByteArray), (⟨#[97, 110, 105]⟩ : ByteArray), (⟨#[111, 114, 105]⟩ : ByteArray), (⟨#[120, 114, 105]⟩ : ByteArray), (⟨#[99, 112, 105]⟩ : ByteArray), (⟨#[116, 97, 120]⟩ : ByteArray), (⟨#[116, 120, 97]⟩ : ByteArray), (⟨#[105, 110, 120]⟩ : ByteArray), (⟨#[100, 101, 120]⟩ : ByteArray), (⟨#[108, 97, 120]⟩ : ByteArray), (⟨#[115, 97, 120]⟩ : ByteArray), (⟨#[98, 110, 101]⟩ : ByteArray), (⟨#[98, 101, 113]⟩ : ByteArray), (⟨#[98, 99, 115]⟩ : ByteArray), (⟨#[106, 109, 112]⟩ : ByteArray), (⟨#[106, 115, 114]⟩ : ByteArray), (⟨#[114, 116, 115]⟩ : ByteArray), (⟨#[112, 104, 97]⟩ : ByteArray), (⟨#[112, 108, 97]⟩ : ByteArray), (⟨#[114, 116, 105]⟩ : ByteArray), (⟨#[115, 101, 105]⟩ : ByteArray), (⟨#[99, 108, 105]⟩ : ByteArray), (⟨#[115, 101, 99]⟩ : ByteArray), (⟨#[99, 108, 99]⟩ : ByteArray), (⟨#[97, 100, 97]⟩ : ByteArray)] : List ByteArray))) = some r := h
 clear h
 obtain ⟨y341, hy341⟩ : ∃ y_ : List ByteArray, y_ = (([(⟨#[110, 111, 112]⟩ : ByteArray), (⟨#[108, 100, 105]⟩ : ByteArray), (⟨#[108, 100, 97]⟩ : ByteArray), (⟨#[115, 116, 97]⟩ : ByteArray), (⟨#[97, 100, 105]⟩ : ByteArray), (⟨#[115, 98, 105]⟩ : ByteArray), (⟨#[97, 110, 105]⟩ : ByteArray), (⟨#[111, 114, 105]⟩ : ByteArray), (⟨#[120, 114, 105]⟩ : ByteArray), (⟨#[99, 112, 105]⟩ : ByteArray), (⟨#[116, 97, 120]⟩ : ByteArray), (⟨#[116, 120, 97]⟩ : ByteArray), (⟨#[105, 110, 120]⟩ : ByteArray), (⟨#[100, 101, 120]⟩ : ByteArray), (⟨#[108, 97, 120]⟩ : ByteArray), (⟨#[115, 97, 120]⟩ : ByteArray), (⟨#[98, 110, 101]⟩ : ByteArray), (⟨#[98, 101, 113]⟩ : ByteArray), (⟨#[98, 99, 115]⟩ : ByteArray), (⟨#[106, 109, 112]⟩ : ByteArray), (⟨#[106, 115, 114]⟩ : ByteArray), (⟨#[114, 116, 115]⟩ : ByteArray), (⟨#[112, 104, 97]⟩ : ByteArray), (⟨#[112, 108, 97]⟩ : ByteArray), (⟨#[114, 116, 105]⟩ : ByteArray), (⟨#[115, 101, 105]⟩ : ByteArray), (⟨#[99, 108, 105]⟩ : ByteArray), (⟨#[115, 101, 99]⟩ : ByteArray), (⟨#[99, 108, 99]⟩ : ByteArray), (⟨#[97, 100, 97]⟩ : ByteArray)] : List ByteArray)) := ⟨_, rfl⟩
 replace H : (some y341) = some r := by first | (rw [hy341]; with_reducible exact H) | (have H2_ := (Option.bind_some _ _).symm.trans H; rw [hy341]; with_reducible exact H2_) | (have H2_ := (Option.bind_some _ _).symm.trans H; with_reducible exact H2_) | with_reducible exact H | (rw [hy341]; exact H) | exact H
 have Ny341 := Aside0.mk hy341
 clear hy341
 obtain rfl := Option.some.inj H
 go_enter Try.func132, Try.ntmps132
 go_wp2_with (first | ((with_reducible refine gate_dst (N := 1) rfl ?_); refine Kd.R_lit Kd.string _ 9 ?hg (N := 1) ?hd (xs := ([(⟨#[110, 111, 112]⟩ : ByteArray), (⟨#[108, 100, 105]⟩ : ByteArray), (⟨#[108, 100, 97]⟩ : ByteArray), (⟨#[115, 116, 97]⟩ : ByteArray), (⟨#[97, 100, 105]⟩ : ByteArray), (⟨#[115, 98, 105]⟩ : ByteArray), (⟨#[97, 110, 105]⟩ : ByteArray), (⟨#[111, 114, 105]⟩ : ByteArray), (⟨#[120, 114, 105]⟩ : ByteArray), (⟨#[99, 112, 105]⟩ : ByteArray), (⟨#[116, 97, 120]⟩ : ByteArray), (⟨#[116, 120, 97]⟩ : ByteArray), (⟨#[105, 110, 120]⟩ : ByteArray), (⟨#[100, 101, 120]⟩ : ByteArray), (⟨#[108, 97, 120]⟩ : ByteArray), (⟨#[115, 97, 120]⟩ : ByteArray), (⟨#[98, 110, 101]⟩ : ByteArray), (⟨#[98, 101, 113]⟩ : ByteArray), (⟨#[98, 99, 115]⟩ : ByteArray), (⟨#[106, 109, 112]⟩ : ByteArray), (⟨#[106, 115, 114]⟩ : ByteArray), (⟨#[114, 116, 115]⟩ : ByteArray), (⟨#[112, 104, 97]⟩ : ByteArray), (⟨#[112, 108, 97]⟩ : ByteArray), (⟨#[114, 116, 105]⟩ : ByteArray), (⟨#[115, 101, 105]⟩ : ByteArray), (⟨#[99, 108, 105]⟩ : ByteArray), (⟨#[115, 101, 99]⟩ : ByteArray), (⟨#[99, 108, 99]⟩ : ByteArray), (⟨#[97, 100, 97]⟩ : ByteArray)] : List ByteArray)) (inner := [.string (⟨#[110, 111, 112]⟩ : ByteArray), .string (⟨#[108, 100, 105]⟩ : ByteArray), .string (⟨#[108, 100, 97]⟩ : ByteArray), .string (⟨#[115, 116, 97]⟩ : ByteArray), .string (⟨#[97, 100, 105]⟩ : ByteArray), .string (⟨#[115, 98, 105]⟩ : ByteArray), .string (⟨#[97, 110, 105]⟩ : ByteArray), .string (⟨#[111, 114, 105]⟩ : ByteArray), .string (⟨#[120, 114, 105]⟩ : ByteArray), .string (⟨#[99, 112, 105]⟩ : ByteArray), .string (⟨#[116, 97, 120]⟩ : ByteArray), .string (⟨#[116, 120, 97]⟩ : ByteArray), .string (⟨#[105, 110, 120]⟩ : ByteArray), .string (⟨#[100, 101, 120]⟩ : ByteArray), .string (⟨#[108, 97, 120]⟩ : ByteArray), .string (⟨#[115, 97, 120]⟩ : ByteArray), .string (⟨#[98, 110, 101]⟩ : ByteArray), .string (⟨#[98, 101, 113]⟩ : ByteArray), .string (⟨#[98, 99, 115]⟩ : ByteArray), .string (⟨#[106, 109, 112]⟩ : ByteArray), .string (⟨#[106, 115, 114]⟩ : ByteArray), .string (⟨#[114, 116, 115]⟩ : ByteArray), .string (⟨#[112, 104, 97]⟩ : ByteArray), .string (⟨#[112, 108, 97]⟩ : ByteArray), .string (⟨#[114, 116, 105]⟩ : ByteArray), .string (⟨#[115, 101, 105]⟩ : ByteArray), .string (⟨#[99, 108, 105]⟩ : ByteArray), .string (⟨#[115, 101, 99]⟩ : ByteArray), .string (⟨#[99, 108, 99]⟩ : ByteArray), .string (⟨#[97, 100, 97]⟩ : ByteArray)]) (ok := fun _ => True) (okp := fun _ => True) ?hr ?hp (fun _ hk => hk) trivial (Below.refl _ _) (Nat.le_refl _) (by simp) ?_; (case hd => rfl); (case hg => rfl); (case hr => first | (go_simp; done) | (go_simp; rfl)); (case hp => exact (reS _)); intro v342 w1 ho2 hb hg_ hnew_; clear hg_ hnew_; (first | rw [← Ny341.out] at ho2 | (simp only [Int.reduceToNat] at ho2; rw [← Ny341.out] at ho2)); have HO343 := Aside0.mk (Kd.R_lower ho2 (below_size (bw HB.out))); replace HB := Aside0.mk (below_step (bw HB.out) hb); clear hb ho2))
 go_ret
 exact ⟨_, rt, kr HO343.out, bw HB.out⟩

/-! ### spec_OpOf: function 130 -/
def spec_OpOf.l0 : Nat → ByteArray → List ByteArray → Int → Option (Int)
 | 0, _, _, _ => none
 | k + 1, x0, x3, x4 => if x4 < (x3.length : Int) then (if 0 ≤ x4 then (if (rdOf ByteArray.empty x3 x4).toList = x0.toList then (some x4) else (spec_OpOf.l0 k x0 x3 (wrap64 (x4 + 1)))) else (none)) else (some (-1))
def spec_OpOf.f (k : Nat) (a0 : ByteArray) : Option (Int) := (spec_l3Names.f).bind fun t344 => (spec_OpOf.l0 k a0 t344 0)
set_option maxHeartbeats 8000000 in
set_option maxRecDepth 100000 in
theorem spec_OpOf.calls (k : Nat) (a0 : ByteArray) (r : Int) (w : World) (h : spec_OpOf.f k a0 = some r) :
  Calls Try.prog 130 #[.string a0] w fun e w' => e = .returned (.int .i64 r) ∧ Below w.heap.size w w' := by
 have HB := Aside0.mk (Below.refl w.heap.size w)
 have H : ((spec_l3Names.f).bind fun t344 => (spec_OpOf.l0 k a0 t344 0)) = some r := h
 clear h
 replace H := Option.bind_eq_some_iff.mp H
 obtain ⟨t344, A20, H⟩ := H
 replace H : (spec_OpOf.l0 k a0 t344 0) = some r := H
 have A2 := Aside0.mk A20
 clear A20
 have H' := Aside0.mk H
 clear H
 go_enter Try.func130, Try.ntmps130
 go_wp2_with (first | ((with_reducible refine gate_callee (f := 132) rfl ?_); refine goesM_ (some 5) rfl rfl Try.func132 #[] ?_; (with_reducible refine (spec_l3Names.calls  t344 _ A2.out).mono ?_); rintro e w3 ⟨v345, rfl, ho0, hb⟩; refine ⟨_, rfl, ?_⟩; have HO346 := Aside0.mk (Kd.R_lower ho0 (below_size (bw HB.out))); replace HB := Aside0.mk (below_step (bw HB.out) hb); (try clear hb); (try clear hb2); (try clear hk); (try clear hi); (try clear ho0)))
 go_loopg [4] k (fun kq v4 w' => ∃ (x4_1 : Int), v4 = .int .i64 x4_1 ∧ Aside0 (spec_OpOf.l0 kq a0 t344 x4_1 = some r) ∧ Aside0 (kq ≤ k) ∧ Aside0 (Kd.R Kd.string 9 w' w.heap.size (fun _ => True) v345 t344) ∧ Aside0 (Below w.heap.size w w'))
 case atStart => exact ⟨(0), (by first | rfl | (simp; done) | (simp [*]; done)), H', ⟨Nat.le_refl _⟩, ⟨kr HO346.out⟩, ⟨bw HB.out⟩⟩
 case round =>
  clear H'
  (try clear c1); (try clear p2)
  obtain ⟨x4_1, rfl, HA, HK1, HO_3, HB⟩ := hrel
  cases gk with
  | zero => exact absurd HA.out (by simp [spec_OpOf.l0])
  | succ k1 =>
   have H := HA.out
   clear HA
   simp only [spec_OpOf.l0] at H
   by_cases c4 : x4_1 < (t344.length : Int)
   ·rw [if_pos c4] at H
    have c4b0 : decide (x4_1 < (t344.length : Int)) = true := decide_eq_true c4
    clear c4
    by_cases c5 : 0 ≤ x4_1
    ·rw [if_pos c5] at H
     have c5b0 : decide (0 ≤ x4_1) = true := decide_eq_true c5
     clear c5
     by_cases c6 : (rdOf ByteArray.empty t344 x4_1).toList = a0.toList
     ·rw [if_pos c6] at H
      have c6b0 : ((rdOf ByteArray.empty t344 x4_1).toList == a0.toList) = true := beq_iff_eq.mpr c6
      have c6b1 : ((rdOf ByteArray.empty t344 x4_1).toList != a0.toList) = false := bne_eq_false_iff_eq.mpr c6
      clear c6
      obtain rfl := Option.some.inj H
      obtain ⟨Ao7, co7, eo7⟩ := Kd.R_slice HO_3.out
      subst eo7
      have p347 : 0 ≤ (x4_1 : Int) := dt
      have q347 : x4_1 < (t344.length : Int) := dt
      obtain ⟨ad347, e347, hx347_0⟩ := Kd.at_string (Kd.R_reads' HO_3.out).2.2 x4_1 p347 q347
      cases e347
      replace p347 := eq_true p347
      replace q347 := eq_true q347
      go_wp2
      go_ret
      exact ⟨rt, bw HB.out⟩
     ·rw [if_neg c6] at H
      have c6b0 : ((rdOf ByteArray.empty t344 x4_1).toList == a0.toList) = false := beq_eq_false_iff_ne.mpr c6
      have c6b1 : ((rdOf ByteArray.empty t344 x4_1).toList != a0.toList) = true := bne_iff_ne.mpr c6
      have H' := Aside0.mk H
      clear H
      obtain ⟨Ao8, co8, eo8⟩ := Kd.R_slice HO_3.out
      subst eo8
      have p347 : 0 ≤ (x4_1 : Int) := dt
      have q347 : x4_1 < (t344.length : Int) := dt
      obtain ⟨ad347, e347, hx347_0⟩ := Kd.at_string (Kd.R_reads' HO_3.out).2.2 x4_1 p347 q347
      cases e347
      replace p347 := eq_true p347
      replace q347 := eq_true q347
      go_wp2
      go_roundg k1
      case measure => have := HK1.out; omega
      case rel => exact ⟨(wrap64 (x4_1 + 1)), (by first | rfl | (simp; done) | (simp [*]; done)), H', ⟨by have := HK1.out; omega⟩, ⟨kr HO_3.out⟩, ⟨bw HB.out⟩⟩
    ·rw [if_neg c5] at H
     exact absurd H (by simp)
   ·rw [if_neg c4] at H
    have c4b0 : decide (x4_1 < (t344.length : Int)) = false := decide_eq_false c4
    clear c4
    obtain rfl := Option.some.inj H
    obtain ⟨Ao9, co9, eo9⟩ := Kd.R_slice HO_3.out
    subst eo9
    go_wp2
    go_ret
    exact ⟨rt, bw HB.out⟩

/-! ### spec_l4Bytes: function 118 -/
def spec_l4Bytes.j0 : Nat → ByteArray → Int → Bool → Option (List Int × Int × Bool)
 | 0, _, _, _ => none
 | k + 1, x5, x6, x23 => if x23 = true then ((spec_l1In.f x6 0 255).bind fun t354 => (if t354 = true then (if x5.toList = ([97, 116] : List UInt8) then (some ((([] : List Int)), x6, true)) else (some ((([x6] : List Int)), (-1), true))) else (some ((([] : List Int)), (-1), false)))) else ((spec_OpOf.f k x5).bind fun t364 => (if t364 < 0 then (some ((([] : List Int)), (-1), false)) else ((spec_OpLen.f t364).bind fun t368 => (if t368 = 1 then (some ((([t364] : List Int)), (-1), decide (x6 < 0))) else (if t368 = 2 then ((spec_Byte.f x6).bind fun t372 => ((spec_l1In.f x6 0 255).bind fun t376 => (some ((([t364, t372] : List Int)), (-1), t376)))) else ((spec_Byte.f x6).bind fun t377 => ((spec_Byte.f (x6 / 256)).bind fun t378 => ((spec_l1In.f x6 0 65535).bind fun t382 => (some ((([t364, t377, t378] : List Int)), (-1), t382))))))))))
def spec_l4Bytes.f (k : Nat) (a0 : ByteArray) : Option (List Int × Int × Bool) := (spec_l4Line.f k a0).bind fun bt348 => (if bt348.2.2 = true then (if bt348.1.toList = ([97, 116] : List UInt8) then (spec_l4Bytes.j0 k bt348.1 bt348.2.1 true) else (spec_l4Bytes.j0 k bt348.1 bt348.2.1 (bt348.1.toList == ([98, 121, 116, 101] : List UInt8)))) else (some ((([] : List Int)), (-1), false)))
set_option maxHeartbeats 8000000 in
set_option maxRecDepth 100000 in
theorem spec_l4Bytes.calls (k : Nat) (a0 : ByteArray) (r1 : List Int) (r2 : Int) (r3 : Bool) (w : World) (h : spec_l4Bytes.f k a0 = some (r1, r2, r3)) :
  Calls Try.prog 118 #[.string a0] w fun e w' => ∃ v0_ : Value, e = .returned (.tuple #[v0_, .int .i64 r2, .bool r3]) ∧ Kd.R (Kd.int .i64) 3 w' w.heap.size (fun _ => True) v0_ r1 ∧ Below w.heap.size w w' := by
 have HB := Aside0.mk (Below.refl w.heap.size w)
 have H : ((spec_l4Line.f k a0).bind fun bt348 => (if bt348.2.2 = true then (if bt348.1.toList = ([97, 116] : List UInt8) then (spec_l4Bytes.j0 k bt348.1 bt348.2.1 true) else (spec_l4Bytes.j0 k bt348.1 bt348.2.1 (bt348.1.toList == ([98, 121, 116, 101] : List UInt8)))) else (some ((([] : List Int)), (-1), false)))) = some (r1, r2, r3) := h
 clear h
 replace H := Option.bind_eq_some_iff.mp H
 obtain ⟨⟨t348, t349, t350⟩, A20, H⟩ := H
 replace H : (if t350 = true then (if t348.toList = ([97, 116] : List UInt8) then (spec_l4Bytes.j0 k t348 t349 true) else (spec_l4Bytes.j0 k t348 t349 (t348.toList == ([98, 121, 116, 101] : List UInt8)))) else (some ((([] : List Int)), (-1), false))) = some (r1, r2, r3) := H
 have A2 := Aside0.mk A20
 clear A20
 by_cases c3 : t350 = true
 ·subst c3
  have H1 : (if t348.toList = ([97, 116] : List UInt8) then (spec_l4Bytes.j0 k t348 t349 true) else (spec_l4Bytes.j0 k t348 t349 (t348.toList == ([98, 121, 116, 101] : List UInt8)))) = some (r1, r2, r3) := by rw [if_pos rfl] at H; exact H
  clear H
  have H := H1
  clear H1
  have HC4 := Aside0.mk H
  clear H
  go_enter Try.func118, Try.ntmps118
  go_upto_region 4 with (first | ((with_reducible refine gate_callee (f := 129) rfl ?_); refine goesM_ (some 11) rfl rfl Try.func129 #[.string a0] ?_; (with_reducible refine (spec_l4Line.calls k a0 t348 t349 true _ A2.out).mono ?_); rintro e w5 ⟨rfl, hb⟩; refine ⟨_, rfl, ?_⟩; replace HB := Aside0.mk (below_step (bw HB.out) hb); (try clear hb); (try clear hb2); (try clear hk); (try clear hi)))
  (try simp only [Act.put, List.setIfInBounds_toArray, List.set_cons_zero, List.set_cons_succ])
  go_cut [23] (fun v23 wc => ∃ (kq : Nat) (x23_3 : Bool), v23 = .bool x23_3 ∧ Aside0 (spec_l4Bytes.j0 kq t348 t349 x23_3 = some (r1, r2, r3)) ∧ Aside0 (kq ≤ k) ∧ Aside0 (Below w.heap.size w wc))
  case first =>
   have H := HC4.out
   clear HC4
   by_cases c6 : t348.toList = ([97, 116] : List UInt8)
   ·rw [if_pos c6] at H
    have c6b0 : (t348.toList == ([97, 116] : List UInt8)) = true := beq_iff_eq.mpr c6
    have c6b1 : (t348.toList != ([97, 116] : List UInt8)) = false := bne_eq_false_iff_eq.mpr c6
    clear c6
    (first | rw [c6b0] | (simp only [i64_w, i32_w]; rw [c6b0]) | skip)
    have H' := Aside0.mk H
    clear H
    go_wp2
    go_meet
    case rel => exact ⟨_, (true), (by first | rfl | (simp; done) | (simp [*]; done)), H', ⟨by first | omega | exact Nat.le_refl _⟩, ⟨bw HB.out⟩⟩
   ·rw [if_neg c6] at H
    have c6b0 : (t348.toList == ([97, 116] : List UInt8)) = false := beq_eq_false_iff_ne.mpr c6
    have c6b1 : (t348.toList != ([97, 116] : List UInt8)) = true := bne_iff_ne.mpr c6
    (first | rw [c6b0] | (simp only [i64_w, i32_w]; rw [c6b0]) | skip)
    have H' := Aside0.mk H
    clear H
    go_wp2
    go_meet
    case rel => exact ⟨_, ((t348.toList == ([98, 121, 116, 101] : List UInt8))), (by first | rfl | (simp; done) | (simp [*]; done)), H', ⟨by first | omega | exact Nat.le_refl _⟩, ⟨bw HB.out⟩⟩
  case rest =>
   clear HC4; (try clear c1); (try clear p2); (try clear c3); (try clear c6); (try clear c6b0); (try clear c6b1)
   obtain ⟨kq, x23_3, rfl, HA, HJ3, HB⟩ := hcut
   cases kq with
   | zero => exact absurd HA.out (by simp [spec_l4Bytes.j0])
   | succ kj3 =>
    have H := HA.out
    clear HA
    simp only [spec_l4Bytes.j0] at H
    by_cases c7 : x23_3 = true
    ·subst c7
     have H1 : ((spec_l1In.f t349 0 255).bind fun t354 => (if t354 = true then (if t348.toList = ([97, 116] : List UInt8) then (some ((([] : List Int)), t349, true)) else (some ((([t349] : List Int)), (-1), true))) else (some ((([] : List Int)), (-1), false)))) = some (r1, r2, r3) := by rw [if_pos rfl] at H; exact H
     clear H
     have H := H1
     clear H1
     replace H := Option.bind_eq_some_iff.mp H
     obtain ⟨t354, A80, H⟩ := H
     replace H : (if t354 = true then (if t348.toList = ([97, 116] : List UInt8) then (some ((([] : List Int)), t349, true)) else (some ((([t349] : List Int)), (-1), true))) else (some ((([] : List Int)), (-1), false))) = some (r1, r2, r3) := H
     have A8 := Aside0.mk A80
     clear A80
     by_cases c9 : t354 = true
     ·subst c9
      have H1 : (if t348.toList = ([97, 116] : List UInt8) then (some ((([] : List Int)), t349, true)) else (some ((([t349] : List Int)), (-1), true))) = some (r1, r2, r3) := by rw [if_pos rfl] at H; exact H
      clear H
      have H := H1
      clear H1
      by_cases c10 : t348.toList = ([97, 116] : List UInt8)
      ·rw [if_pos c10] at H
       have c10b0 : (t348.toList == ([97, 116] : List UInt8)) = true := beq_iff_eq.mpr c10
       have c10b1 : (t348.toList != ([97, 116] : List UInt8)) = false := bne_eq_false_iff_eq.mpr c10
       clear c10
       obtain ⟨y355, hy355⟩ : ∃ y_ : List Int, y_ = (([] : List Int)) := ⟨_, rfl⟩
       replace H : (some (y355, t349, true)) = some (r1, r2, r3) := by first | (rw [hy355]; with_reducible exact H) | (have H2_ := (Option.bind_some _ _).symm.trans H; rw [hy355]; with_reducible exact H2_) | (have H2_ := (Option.bind_some _ _).symm.trans H; with_reducible exact H2_) | with_reducible exact H | (rw [hy355]; exact H) | exact H
       have Ny355 := Aside0.mk hy355
       clear hy355
       simp only [Option.some.injEq, Prod.mk.injEq] at H
       obtain ⟨rfl, rfl, rfl⟩ := H
       go_wp2_with (first | ((with_reducible refine gate_callee (f := 68) rfl ?_); refine goesM_ (some 25) rfl rfl Try.func68 #[.int .i64 t349, .int .i64 0, .int .i64 255] ?_; (with_reducible refine (spec_l1In.calls t349 0 255 true _ A8.out).mono ?_); rintro e w' ⟨rfl, ⟨nd, rfl⟩⟩; refine ⟨_, rfl, ?_⟩) | ((with_reducible refine gate_dst (N := 30) rfl ?_); refine Kd.R_lit (Kd.int .i64) _ 3 ?hg (N := 30) ?hd (xs := ([] : List Int)) (inner := []) (ok := fun _ => True) (okp := fun _ => True) ?hr ?hp (fun _ hk => hk) trivial (Below.refl _ _) (Nat.le_refl _) (by simp) ?_; (case hd => rfl); (case hg => rfl); (case hr => first | (go_simp; done) | (go_simp; rfl)); (case hp => exact (Reps.none _ _)); intro v356 w11 ho12 hb hg_ hnew_; clear hg_ hnew_; (first | rw [← Ny355.out] at ho12 | (simp only [Int.reduceToNat] at ho12; rw [← Ny355.out] at ho12)); have HO357 := Aside0.mk (Kd.R_lower ho12 (below_size (bw HB.out))); replace HB := Aside0.mk (below_step (bw HB.out) hb); clear hb ho12))
       go_ret3
       exact ⟨_, rt, kr HO357.out, bw HB.out⟩
      ·rw [if_neg c10] at H
       have c10b0 : (t348.toList == ([97, 116] : List UInt8)) = false := beq_eq_false_iff_ne.mpr c10
       have c10b1 : (t348.toList != ([97, 116] : List UInt8)) = true := bne_iff_ne.mpr c10
       obtain ⟨y358, hy358⟩ : ∃ y_ : List Int, y_ = (([t349] : List Int)) := ⟨_, rfl⟩
       replace H : (some (y358, (-1), true)) = some (r1, r2, r3) := by first | (rw [hy358]; with_reducible exact H) | (have H2_ := (Option.bind_some _ _).symm.trans H; rw [hy358]; with_reducible exact H2_) | (have H2_ := (Option.bind_some _ _).symm.trans H; with_reducible exact H2_) | with_reducible exact H | (rw [hy358]; exact H) | exact H
       have Ny358 := Aside0.mk hy358
       clear hy358
       simp only [Option.some.injEq, Prod.mk.injEq] at H
       obtain ⟨rfl, rfl, rfl⟩ := H
       go_wp2_with (first | ((with_reducible refine gate_callee (f := 68) rfl ?_); refine goesM_ (some 25) rfl rfl Try.func68 #[.int .i64 t349, .int .i64 0, .int .i64 255] ?_; (with_reducible refine (spec_l1In.calls t349 0 255 true _ A8.out).mono ?_); rintro e w' ⟨rfl, ⟨nd, rfl⟩⟩; refine ⟨_, rfl, ?_⟩) | ((with_reducible refine gate_dst (N := 33) rfl ?_); refine Kd.R_lit (Kd.int .i64) _ 3 ?hg (N := 33) ?hd (xs := ([t349] : List Int)) (inner := [.int .i64 t349]) (ok := fun _ => True) (okp := fun _ => True) ?hr ?hp (fun _ hk => hk) trivial (Below.refl _ _) (Nat.le_refl _) (by simp) ?_; (case hd => rfl); (case hg => rfl); (case hr => first | (go_simp; done) | (go_simp; rfl)); (case hp => exact (reI _)); intro v359 w13 ho14 hb hg_ hnew_; clear hg_ hnew_; (first | rw [← Ny358.out] at ho14 | (simp only [Int.reduceToNat] at ho14; rw [← Ny358.out] at ho14)); have HO360 := Aside0.mk (Kd.R_lower ho14 (below_size (bw HB.out))); replace HB := Aside0.mk (below_step (bw HB.out) hb); clear hb ho14))
       go_ret3
       exact ⟨_, rt, kr HO360.out, bw HB.out⟩
     ·replace c9 := Bool.eq_false_iff.mpr c9
      subst c9
      have H1 : (some ((([] : List Int)), (-1), false)) = some (r1, r2, r3) := by rw [if_neg (show ¬ (false = true) by decide)] at H; exact H
      clear H
      have H := H1
      clear H1
      obtain ⟨y361, hy361⟩ : ∃ y_ : List Int, y_ = (([] : List Int)) := ⟨_, rfl⟩
      replace H : (some (y361, (-1), false)) = some (r1, r2, r3) := by first | (rw [hy361]; with_reducible exact H) | (have H2_ := (Option.bind_some _ _).symm.trans H; rw [hy361]; with_reducible exact H2_) | (have H2_ := (Option.bind_some _ _).symm.trans H; with_reducible exact H2_) | with_reducible exact H | (rw [hy361]; exact H) | exact H
      have Ny361 := Aside0.mk hy361
      clear hy361
      simp only [Option.some.injEq, Prod.mk.injEq] at H
      obtain ⟨rfl, rfl, rfl⟩ := H
      go_wp2_with (first | ((with_reducible refine gate_callee (f := 68) rfl ?_); refine goesM_ (some 25) rfl rfl Try.func68 #[.int .i64 t349, .int .i64 0, .int .i64 255] ?_; (with_reducible refine (spec_l1In.calls t349 0 255 false _ A8.out).mono ?_); rintro e w' ⟨rfl, ⟨nd, rfl⟩⟩; refine ⟨_, rfl, ?_⟩) | ((with_reducible refine gate_dst (N := 27) rfl ?_); refine Kd.R_lit (Kd.int .i64) _ 3 ?hg (N := 27) ?hd (xs := ([] : List Int)) (inner := []) (ok := fun _ => True) (okp := fun _ => True) ?hr ?hp (fun _ hk => hk) trivial (Below.refl _ _) (Nat.le_refl _) (by simp) ?_; (case hd => rfl); (case hg => rfl); (case hr => first | (go_simp; done) | (go_simp; rfl)); (case hp => exact (Reps.none _ _)); intro v362 w15 ho16 hb hg_ hnew_; clear hg_ hnew_; (first | rw [← Ny361.out] at ho16 | (simp only [Int.reduceToNat] at ho16; rw [← Ny361.out] at ho16)); have HO363 := Aside0.mk (Kd.R_lower ho16 (below_size (bw HB.out))); replace HB := Aside0.mk (below_step (bw HB.out) hb); clear hb ho16))
      go_ret3
      exact ⟨_, rt, kr HO363.out, bw HB.out⟩
    ·replace c7 := Bool.eq_false_iff.mpr c7
     subst c7
     have H1 : ((spec_OpOf.f kj3 t348).bind fun t364 => (if t364 < 0 then (some ((([] : List Int)), (-1), false)) else ((spec_OpLen.f t364).bind fun t368 => (if t368 = 1 then (some ((([t364] : List Int)), (-1), decide (t349 < 0))) else (if t368 = 2 then ((spec_Byte.f t349).bind fun t372 => ((spec_l1In.f t349 0 255).bind fun t376 => (some ((([t364, t372] : List Int)), (-1), t376)))) else ((spec_Byte.f t349).bind fun t377 => ((spec_Byte.f (t349 / 256)).bind fun t378 => ((spec_l1In.f t349 0 65535).bind fun t382 => (some ((([t364, t377, t378] : List Int)), (-1), t382)))))))))) = some (r1, r2, r3) := by rw [if_neg (show ¬ (false = true) by decide)] at H; exact H
     clear H
     have H := H1
     clear H1
     replace H := Option.bind_eq_some_iff.mp H
     obtain ⟨t364, A170, H⟩ := H
     replace H : (if t364 < 0 then (some ((([] : List Int)), (-1), false)) else ((spec_OpLen.f t364).bind fun t368 => (if t368 = 1 then (some ((([t364] : List Int)), (-1), decide (t349 < 0))) else (if t368 = 2 then ((spec_Byte.f t349).bind fun t372 => ((spec_l1In.f t349 0 255).bind fun t376 => (some ((([t364, t372] : List Int)), (-1), t376)))) else ((spec_Byte.f t349).bind fun t377 => ((spec_Byte.f (t349 / 256)).bind fun t378 => ((spec_l1In.f t349 0 65535).bind fun t382 => (some ((([t364, t377, t378] : List Int)), (-1), t382))))))))) = some (r1, r2, r3) := H
     have A17 := Aside0.mk A170
     clear A170
     by_cases c18 : t364 < 0
     ·rw [if_pos c18] at H
      have c18b0 : decide (t364 < 0) = true := decide_eq_true c18
      clear c18
      obtain ⟨y365, hy365⟩ : ∃ y_ : List Int, y_ = (([] : List Int)) := ⟨_, rfl⟩
      replace H : (some (y365, (-1), false)) = some (r1, r2, r3) := by first | (rw [hy365]; with_reducible exact H) | (have H2_ := (Option.bind_some _ _).symm.trans H; rw [hy365]; with_reducible exact H2_) | (have H2_ := (Option.bind_some _ _).symm.trans H; with_reducible exact H2_) | with_reducible exact H | (rw [hy365]; exact H) | exact H
      have Ny365 := Aside0.mk hy365
      clear hy365
      simp only [Option.some.injEq, Prod.mk.injEq] at H
      obtain ⟨rfl, rfl, rfl⟩ := H
      go_wp2_with (first | ((with_reducible refine gate_callee (f := 130) rfl ?_); refine goesM_ (some 35) rfl rfl Try.func130 #[.string t348] ?_; (with_reducible refine (spec_OpOf.calls kj3 t348 t364 _ A17.out).mono ?_); rintro e w19 ⟨rfl, hb⟩; refine ⟨_, rfl, ?_⟩; replace HB := Aside0.mk (below_step (bw HB.out) hb); (try clear hb); (try clear hb2); (try clear hk); (try clear hi)) | ((with_reducible refine gate_dst (N := 38) rfl ?_); refine Kd.R_lit (Kd.int .i64) _ 3 ?hg (N := 38) ?hd (xs := ([] : List Int)) (inner := []) (ok := fun _ => True) (okp := fun _ => True) ?hr ?hp (fun _ hk => hk) trivial (Below.refl _ _) (Nat.le_refl _) (by simp) ?_; (case hd => rfl); (case hg => rfl); (case hr => first | (go_simp; done) | (go_simp; rfl)); (case hp => exact (Reps.none _ _)); intro v366 w20 ho21 hb hg_ hnew_; clear hg_ hnew_; (first | rw [← Ny365.out] at ho21 | (simp only [Int.reduceToNat] at ho21; rw [← Ny365.out] at ho21)); have HO367 := Aside0.mk (Kd.R_lower ho21 (below_size (bw HB.out))); replace HB := Aside0.mk (below_step (bw HB.out) hb); clear hb ho21))
      go_ret3
      exact ⟨_, rt, kr HO367.out, bw HB.out⟩
     ·rw [if_neg c18] at H
      have c18b0 : decide (t364 < 0) = false := decide_eq_false c18
      clear c18
      replace H := Option.bind_eq_some_iff.mp H
      obtain ⟨t368, A220, H⟩ := H
      replace H : (if t368 = 1 then (some ((([t364] : List Int)), (-1), decide (t349 < 0))) else (if t368 = 2 then ((spec_Byte.f t349).bind fun t372 => ((spec_l1In.f t349 0 255).bind fun t376 => (some ((([t364, t372] : List Int)), (-1), t376)))) else ((spec_Byte.f t349).bind fun t377 => ((spec_Byte.f (t349 / 256)).bind fun t378 => ((spec_l1In.f t349 0 65535).bind fun t382 => (some ((([t364, t377, t378] : List Int)), (-1), t382))))))) = some (r1, r2, r3) := H
      have A22 := Aside0.mk A220
      clear A220
      by_cases c23 : t368 = 1
      ·rw [if_pos c23] at H
       have c23b0 : (t368 == 1) = true := beq_iff_eq.mpr c23
       have c23b1 : (t368 != 1) = false := bne_eq_false_iff_eq.mpr c23
       clear c23
       obtain ⟨y369, hy369⟩ : ∃ y_ : List Int, y_ = (([t364] : List Int)) := ⟨_, rfl⟩
       replace H : (some (y369, (-1), decide (t349 < 0))) = some (r1, r2, r3) := by first | (rw [hy369]; with_reducible exact H) | (have H2_ := (Option.bind_some _ _).symm.trans H; rw [hy369]; with_reducible exact H2_) | (have H2_ := (Option.bind_some _ _).symm.trans H; with_reducible exact H2_) | with_reducible exact H | (rw [hy369]; exact H) | exact H
       have Ny369 := Aside0.mk hy369
       clear hy369
       simp only [Option.some.injEq, Prod.mk.injEq] at H
       obtain ⟨rfl, rfl, rfl⟩ := H
       go_wp2_with (first | ((with_reducible refine gate_callee (f := 130) rfl ?_); refine goesM_ (some 35) rfl rfl Try.func130 #[.string t348] ?_; (with_reducible refine (spec_OpOf.calls kj3 t348 t364 _ A17.out).mono ?_); rintro e w24 ⟨rfl, hb⟩; refine ⟨_, rfl, ?_⟩; replace HB := Aside0.mk (below_step (bw HB.out) hb); (try clear hb); (try clear hb2); (try clear hk); (try clear hi)) | ((with_reducible refine gate_callee (f := 81) rfl ?_); refine goesM_ (some 40) rfl rfl Try.func81 #[.int .i64 t364] ?_; (with_reducible refine (spec_OpLen.calls t364 t368 _ A22.out).mono ?_); rintro e w25 ⟨rfl, hb⟩; refine ⟨_, rfl, ?_⟩; replace HB := Aside0.mk (below_step (bw HB.out) hb); (try clear hb); (try clear hb2); (try clear hk); (try clear hi)) | ((with_reducible refine gate_dst (N := 44) rfl ?_); refine Kd.R_lit (Kd.int .i64) _ 3 ?hg (N := 44) ?hd (xs := ([t364] : List Int)) (inner := [.int .i64 t364]) (ok := fun _ => True) (okp := fun _ => True) ?hr ?hp (fun _ hk => hk) trivial (Below.refl _ _) (Nat.le_refl _) (by simp) ?_; (case hd => rfl); (case hg => rfl); (case hr => first | (go_simp; done) | (go_simp; rfl)); (case hp => exact (reI _)); intro v370 w26 ho27 hb hg_ hnew_; clear hg_ hnew_; (first | rw [← Ny369.out] at ho27 | (simp only [Int.reduceToNat] at ho27; rw [← Ny369.out] at ho27)); have HO371 := Aside0.mk (Kd.R_lower ho27 (below_size (bw HB.out))); replace HB := Aside0.mk (below_step (bw HB.out) hb); clear hb ho27))
       go_ret3
       exact ⟨_, rt, kr HO371.out, bw HB.out⟩
      ·rw [if_neg c23] at H
       have c23b0 : (t368 == 1) = false := beq_eq_false_iff_ne.mpr c23
       have c23b1 : (t368 != 1) = true := bne_iff_ne.mpr c23
       by_cases c28 : t368 = 2
       ·rw [if_pos c28] at H
        have c28b0 : (t368 == 2) = true := beq_iff_eq.mpr c28
        have c28b1 : (t368 != 2) = false := bne_eq_false_iff_eq.mpr c28
        clear c28
        replace H := Option.bind_eq_some_iff.mp H
        obtain ⟨t372, A290, H⟩ := H
        replace H : ((spec_l1In.f t349 0 255).bind fun t376 => (some ((([t364, t372] : List Int)), (-1), t376))) = some (r1, r2, r3) := H
        have A29 := Aside0.mk A290
        clear A290
        obtain ⟨y373, hy373⟩ : ∃ y_ : List Int, y_ = (([t364, t372] : List Int)) := ⟨_, rfl⟩
        replace H : ((spec_l1In.f t349 0 255).bind fun t376 => (some (y373, (-1), t376))) = some (r1, r2, r3) := by first | (rw [hy373]; with_reducible exact H) | (have H2_ := (Option.bind_some _ _).symm.trans H; rw [hy373]; with_reducible exact H2_) | (have H2_ := (Option.bind_some _ _).symm.trans H; with_reducible exact H2_) | with_reducible exact H | (rw [hy373]; exact H) | exact H
        have Ny373 := Aside0.mk hy373
        clear hy373
        replace H := Option.bind_eq_some_iff.mp H
        obtain ⟨t376, A300, H⟩ := H
        replace H : (some (y373, (-1), t376)) = some (r1, r2, r3) := H
        have A30 := Aside0.mk A300
        clear A300
        simp only [Option.some.injEq, Prod.mk.injEq] at H
        obtain ⟨rfl, rfl, rfl⟩ := H
        go_wp2_with (first | ((with_reducible refine gate_callee (f := 130) rfl ?_); refine goesM_ (some 35) rfl rfl Try.func130 #[.string t348] ?_; (with_reducible refine (spec_OpOf.calls kj3 t348 t364 _ A17.out).mono ?_); rintro e w31 ⟨rfl, hb⟩; refine ⟨_, rfl, ?_⟩; replace HB := Aside0.mk (below_step (bw HB.out) hb); (try clear hb); (try clear hb2); (try clear hk); (try clear hi)) | ((with_reducible refine gate_callee (f := 81) rfl ?_); refine goesM_ (some 40) rfl rfl Try.func81 #[.int .i64 t364] ?_; (with_reducible refine (spec_OpLen.calls t364 t368 _ A22.out).mono ?_); rintro e w32 ⟨rfl, hb⟩; refine ⟨_, rfl, ?_⟩; replace HB := Aside0.mk (below_step (bw HB.out) hb); (try clear hb); (try clear hb2); (try clear hk); (try clear hi)) | ((with_reducible refine gate_callee (f := 71) rfl ?_); refine goesM_ (some 51) rfl rfl Try.func71 #[.int .i64 t349] ?_; (with_reducible refine (spec_Byte.calls t349 t372 _ A29.out).mono ?_); rintro e w' ⟨rfl, ⟨nd, rfl⟩⟩; refine ⟨_, rfl, ?_⟩) | ((with_reducible refine gate_dst (N := 52) rfl ?_); refine Kd.R_lit (Kd.int .i64) _ 3 ?hg (N := 52) ?hd (xs := ([t364, t372] : List Int)) (inner := [.int .i64 t364, .int .i64 t372]) (ok := fun _ => True) (okp := fun _ => True) ?hr ?hp (fun _ hk => hk) trivial (Below.refl _ _) (Nat.le_refl _) (by simp) ?_; (case hd => rfl); (case hg => rfl); (case hr => first | (go_simp; done) | (go_simp; rfl)); (case hp => exact (reI _)); intro v374 w33 ho34 hb hg_ hnew_; clear hg_ hnew_; (first | rw [← Ny373.out] at ho34 | (simp only [Int.reduceToNat] at ho34; rw [← Ny373.out] at ho34)); have HO375 := Aside0.mk (Kd.R_lower ho34 (below_size (bw HB.out))); replace HB := Aside0.mk (below_step (bw HB.out) hb); clear hb ho34) | ((with_reducible refine gate_callee (f := 68) rfl ?_); refine goesM_ (some 54) rfl rfl Try.func68 #[.int .i64 t349, .int .i64 0, .int .i64 255] ?_; (with_reducible refine (spec_l1In.calls t349 0 255 t376 _ A30.out).mono ?_); rintro e w' ⟨rfl, ⟨nd, rfl⟩⟩; refine ⟨_, rfl, ?_⟩))
        go_ret3
        exact ⟨_, rt, kr HO375.out, bw HB.out⟩
       ·rw [if_neg c28] at H
        have c28b0 : (t368 == 2) = false := beq_eq_false_iff_ne.mpr c28
        have c28b1 : (t368 != 2) = true := bne_iff_ne.mpr c28
        replace H := Option.bind_eq_some_iff.mp H
        obtain ⟨t377, A350, H⟩ := H
        replace H : ((spec_Byte.f (t349 / 256)).bind fun t378 => ((spec_l1In.f t349 0 65535).bind fun t382 => (some ((([t364, t377, t378] : List Int)), (-1), t382)))) = some (r1, r2, r3) := H
        have A35 := Aside0.mk A350
        clear A350
        replace H := Option.bind_eq_some_iff.mp H
        obtain ⟨t378, A360, H⟩ := H
        replace H : ((spec_l1In.f t349 0 65535).bind fun t382 => (some ((([t364, t377, t378] : List Int)), (-1), t382))) = some (r1, r2, r3) := H
        have A36 := Aside0.mk A360
        clear A360
        obtain ⟨y379, hy379⟩ : ∃ y_ : List Int, y_ = (([t364, t377, t378] : List Int)) := ⟨_, rfl⟩
        replace H : ((spec_l1In.f t349 0 65535).bind fun t382 => (some (y379, (-1), t382))) = some (r1, r2, r3) := by first | (rw [hy379]; with_reducible exact H) | (have H2_ := (Option.bind_some _ _).symm.trans H; rw [hy379]; with_reducible exact H2_) | (have H2_ := (Option.bind_some _ _).symm.trans H; with_reducible exact H2_) | with_reducible exact H | (rw [hy379]; exact H) | exact H
        have Ny379 := Aside0.mk hy379
        clear hy379
        replace H := Option.bind_eq_some_iff.mp H
        obtain ⟨t382, A370, H⟩ := H
        replace H : (some (y379, (-1), t382)) = some (r1, r2, r3) := H
        have A37 := Aside0.mk A370
        clear A370
        simp only [Option.some.injEq, Prod.mk.injEq] at H
        obtain ⟨rfl, rfl, rfl⟩ := H
        go_wp2_with (first | ((with_reducible refine gate_callee (f := 130) rfl ?_); refine goesM_ (some 35) rfl rfl Try.func130 #[.string t348] ?_; (with_reducible refine (spec_OpOf.calls kj3 t348 t364 _ A17.out).mono ?_); rintro e w38 ⟨rfl, hb⟩; refine ⟨_, rfl, ?_⟩; replace HB := Aside0.mk (below_step (bw HB.out) hb); (try clear hb); (try clear hb2); (try clear hk); (try clear hi)) | ((with_reducible refine gate_callee (f := 81) rfl ?_); refine goesM_ (some 40) rfl rfl Try.func81 #[.int .i64 t364] ?_; (with_reducible refine (spec_OpLen.calls t364 t368 _ A22.out).mono ?_); rintro e w39 ⟨rfl, hb⟩; refine ⟨_, rfl, ?_⟩; replace HB := Aside0.mk (below_step (bw HB.out) hb); (try clear hb); (try clear hb2); (try clear hk); (try clear hi)) | ((with_reducible refine gate_callee (f := 71) rfl ?_); refine goesM_ (some 57) rfl rfl Try.func71 #[.int .i64 t349] ?_; (with_reducible refine (spec_Byte.calls t349 t377 _ A35.out).mono ?_); rintro e w' ⟨rfl, ⟨nd, rfl⟩⟩; refine ⟨_, rfl, ?_⟩) | ((with_reducible refine gate_callee (f := 71) rfl ?_); refine goesM_ (some 60) rfl rfl Try.func71 #[.int .i64 (t349 / 256)] ?_; (with_reducible refine (spec_Byte.calls (t349 / 256) t378 _ A36.out).mono ?_); rintro e w' ⟨rfl, ⟨nd, rfl⟩⟩; refine ⟨_, rfl, ?_⟩) | ((with_reducible refine gate_dst (N := 61) rfl ?_); refine Kd.R_lit (Kd.int .i64) _ 3 ?hg (N := 61) ?hd (xs := ([t364, t377, t378] : List Int)) (inner := [.int .i64 t364, .int .i64 t377, .int .i64 t378]) (ok := fun _ => True) (okp := fun _ => True) ?hr ?hp (fun _ hk => hk) trivial (Below.refl _ _) (Nat.le_refl _) (by simp) ?_; (case hd => rfl); (case hg => rfl); (case hr => first | (go_simp; done) | (go_simp; rfl)); (case hp => exact (reI _)); intro v380 w40 ho41 hb hg_ hnew_; clear hg_ hnew_; (first | rw [← Ny379.out] at ho41 | (simp only [Int.reduceToNat] at ho41; rw [← Ny379.out] at ho41)); have HO381 := Aside0.mk (Kd.R_lower ho41 (below_size (bw HB.out))); replace HB := Aside0.mk (below_step (bw HB.out) hb); clear hb ho41) | ((with_reducible refine gate_callee (f := 68) rfl ?_); refine goesM_ (some 63) rfl rfl Try.func68 #[.int .i64 t349, .int .i64 0, .int .i64 65535] ?_; (with_reducible refine (spec_l1In.calls t349 0 65535 t382 _ A37.out).mono ?_); rintro e w' ⟨rfl, ⟨nd, rfl⟩⟩; refine ⟨_, rfl, ?_⟩))
        go_ret3
        exact ⟨_, rt, kr HO381.out, bw HB.out⟩
 ·replace c3 := Bool.eq_false_iff.mpr c3
  subst c3
  have H1 : (some ((([] : List Int)), (-1), false)) = some (r1, r2, r3) := by rw [if_neg (show ¬ (false = true) by decide)] at H; exact H
  clear H
  have H := H1
  clear H1
  obtain ⟨y351, hy351⟩ : ∃ y_ : List Int, y_ = (([] : List Int)) := ⟨_, rfl⟩
  replace H : (some (y351, (-1), false)) = some (r1, r2, r3) := by first | (rw [hy351]; with_reducible exact H) | (have H2_ := (Option.bind_some _ _).symm.trans H; rw [hy351]; with_reducible exact H2_) | (have H2_ := (Option.bind_some _ _).symm.trans H; with_reducible exact H2_) | with_reducible exact H | (rw [hy351]; exact H) | exact H
  have Ny351 := Aside0.mk hy351
  clear hy351
  simp only [Option.some.injEq, Prod.mk.injEq] at H
  obtain ⟨rfl, rfl, rfl⟩ := H
  go_enter Try.func118, Try.ntmps118
  go_wp2_with (first | ((with_reducible refine gate_callee (f := 129) rfl ?_); refine goesM_ (some 11) rfl rfl Try.func129 #[.string a0] ?_; (with_reducible refine (spec_l4Line.calls k a0 t348 t349 false _ A2.out).mono ?_); rintro e w42 ⟨rfl, hb⟩; refine ⟨_, rfl, ?_⟩; replace HB := Aside0.mk (below_step (bw HB.out) hb); (try clear hb); (try clear hb2); (try clear hk); (try clear hi)) | ((with_reducible refine gate_dst (N := 17) rfl ?_); refine Kd.R_lit (Kd.int .i64) _ 3 ?hg (N := 17) ?hd (xs := ([] : List Int)) (inner := []) (ok := fun _ => True) (okp := fun _ => True) ?hr ?hp (fun _ hk => hk) trivial (Below.refl _ _) (Nat.le_refl _) (by simp) ?_; (case hd => rfl); (case hg => rfl); (case hr => first | (go_simp; done) | (go_simp; rfl)); (case hp => exact (Reps.none _ _)); intro v352 w43 ho44 hb hg_ hnew_; clear hg_ hnew_; (first | rw [← Ny351.out] at ho44 | (simp only [Int.reduceToNat] at ho44; rw [← Ny351.out] at ho44)); have HO353 := Aside0.mk (Kd.R_lower ho44 (below_size (bw HB.out))); replace HB := Aside0.mk (below_step (bw HB.out) hb); clear hb ho44))
  go_ret3
  exact ⟨_, rt, kr HO353.out, bw HB.out⟩

/-! ### spec_Assemble: function 106 -/
mutual
def spec_Assemble.l0 : Nat → ByteArray → List Int → Int → Int → Int → Int → Option (List Int × Int)
 | 0, _, _, _, _, _, _ => none
 | k + 1, x0, x4, x5, x6, x7, x8 => if x8 ≤ (x0.size : Int) then (if x8 < (x0.size : Int) then (if 0 ≤ x8 then (if (bt x0 x8) = 10 then (if x8 = (x0.size : Int) then (spec_Assemble.j1 k x0 x4 x5 x6 x7 x8 (x6 == (x0.size : Int))) else (spec_Assemble.j1 k x0 x4 x5 x6 x7 x8 false)) else (spec_Assemble.j1 k x0 x4 x5 x6 x7 x8 true)) else (none)) else (if x8 = (x0.size : Int) then (spec_Assemble.j1 k x0 x4 x5 x6 x7 x8 (x6 == (x0.size : Int))) else (spec_Assemble.j1 k x0 x4 x5 x6 x7 x8 false))) else (some (x4, 0))
def spec_Assemble.j1 : Nat → ByteArray → List Int → Int → Int → Int → Int → Bool → Option (List Int × Int)
 | 0, _, _, _, _, _, _, _ => none
 | k + 1, x0, x4, x5, x6, x7, x8, x46 => if x46 = true then (spec_Assemble.l0 k x0 x4 x5 x6 x7 (wrap64 (x8 + 1))) else (if 0 ≤ x6 then (if x6 ≤ x8 then (if x8 ≤ (x0.size : Int) then (if (x0.extract (x6 : Int).toNat (x8 : Int).toNat).toList = ([] : List UInt8) then (spec_Assemble.l0 k x0 x4 x5 (wrap64 (x8 + 1)) (wrap64 (x7 + 1)) (wrap64 (x8 + 1))) else ((spec_l4Bytes.f k (x0.extract (x6 : Int).toNat (x8 : Int).toNat)).bind fun bt389 => (if bt389.2.2 = true then (if bt389.2.1 ≥ 0 then (spec_Assemble.j2 k x0 x4 bt389.2.1 (wrap64 (x8 + 1)) (wrap64 (x7 + 1)) x8 bt389.1) else (spec_Assemble.j2 k x0 x4 x5 (wrap64 (x8 + 1)) (wrap64 (x7 + 1)) x8 bt389.1)) else (some ((([] : List Int)), wrap64 (x7 + 1)))))) else (none)) else (none)) else (none))
def spec_Assemble.j2 : Nat → ByteArray → List Int → Int → Int → Int → Int → List Int → Option (List Int × Int)
 | 0, _, _, _, _, _, _, _ => none
 | k + 1, x0, x4, x5, x6, x7, x8, x10 => spec_Assemble.l1 k x0 x4 x5 x6 x7 x8 x10 0
def spec_Assemble.l1 : Nat → ByteArray → List Int → Int → Int → Int → Int → List Int → Int → Option (List Int × Int)
 | 0, _, _, _, _, _, _, _, _ => none
 | k + 1, x0, x4, x5, x6, x7, x8, x10, x13 => if x13 < (x10.length : Int) then ((spec_Byte.f x5).bind fun t397 => (if 0 ≤ x13 then (if 0 ≤ t397 then (if t397 < (x4.length : Int) then (spec_Assemble.l1 k x0 (x4.set (t397 : Int).toNat (rd x10 x13)) (wrap64 (x5 + 1)) x6 x7 x8 x10 (wrap64 (x13 + 1))) else (none)) else (none)) else (none))) else (spec_Assemble.l0 k x0 x4 x5 x6 x7 (wrap64 (x8 + 1)))
end
def spec_Assemble.f (k : Nat) (a0 : ByteArray) : Option (List Int × Int) := if (a0.size : Int) > 3000 then (some ((([] : List Int)), (-1))) else (if 256 ≤ 35184372088832 then (spec_Assemble.l0 k a0 (List.replicate 256 0) 0 0 0 0) else (none))
def spec_Assemble.T21 : Bool × List (List Nat × List Nat) := (true, [([], []), ([], []), ([1], [1]), ([], []), ([], []), ([3, 4], [3, 4]), ([5], [5]), ([0, 2, 0, 1, 2, 3, 4, 5, 6], [0, 2]), ([7, 6, 2, 0, 1, 2, 3, 4, 5, 6], [6, 7])])
def spec_Assemble.B21 : List Nat := [0, 0, 2, 0, 0, 24, 56, 127, 255]
theorem spec_Assemble.tab21 : rtab .any (opsOf Try.f106 21) = spec_Assemble.T21 := by kernel_rfl
theorem spec_Assemble.bits21 : waitsOk spec_Assemble.T21.2 spec_Assemble.B21 = true := by kernel_rfl
set_option maxHeartbeats 8000000 in
set_option maxRecDepth 100000 in
theorem spec_Assemble.calls (k : Nat) (a0 : ByteArray) (r1 : List Int) (r2 : Int) (w : World) (h : spec_Assemble.f k a0 = some (r1, r2)) :
  Calls Try.prog 106 #[.string a0] w fun e w' => ∃ v0_ : Value, e = .returned (.tuple #[v0_, .int .i64 r2]) ∧ Kd.R (Kd.int .i64) 3 w' w.heap.size (fun _ => True) v0_ r1 ∧ Below w.heap.size w w' := by
 have HB := Aside0.mk (Below.refl w.heap.size w)
 have H : (if (a0.size : Int) > 3000 then (some ((([] : List Int)), (-1))) else (if 256 ≤ 35184372088832 then (spec_Assemble.l0 k a0 (List.replicate 256 0) 0 0 0 0) else (none))) = some (r1, r2) := h
 clear h
 by_cases c2 : (a0.size : Int) > 3000
 ·rw [if_pos c2] at H
  have c2b0 : decide (3000 < (a0.size : Int)) = true := decide_eq_true c2
  have c2b1 : decide (3000 < a0.size) = true := decide_eq_true (by omega)
  clear c2
  obtain ⟨y383, hy383⟩ : ∃ y_ : List Int, y_ = (([] : List Int)) := ⟨_, rfl⟩
  replace H : (some (y383, (-1))) = some (r1, r2) := by first | (rw [hy383]; with_reducible exact H) | (have H2_ := (Option.bind_some _ _).symm.trans H; rw [hy383]; with_reducible exact H2_) | (have H2_ := (Option.bind_some _ _).symm.trans H; with_reducible exact H2_) | with_reducible exact H | (rw [hy383]; exact H) | exact H
  have Ny383 := Aside0.mk hy383
  clear hy383
  simp only [Option.some.injEq, Prod.mk.injEq] at H
  obtain ⟨rfl, rfl⟩ := H
  go_enter Try.func106, Try.ntmps106
  go_wp2_with (first | ((with_reducible refine gate_dst (N := 17) rfl ?_); (try (refine gate_guard (by rfl) ?_; dsimp only)); refine Kd.R_lit (Kd.int .i64) _ 3 ?hg (N := 17) ?hd (xs := ([] : List Int)) (inner := []) (ok := fun _ => True) (okp := fun _ => True) ?hr ?hp (fun _ hk => hk) trivial (Below.refl _ _) (Nat.le_refl _) (by simp) ?_; (case hd => rfl); (case hg => rfl); (case hr => first | (go_simp; done) | (go_simp; rfl)); (case hp => exact (Reps.none _ _)); intro v384 w3 ho4 hb hg_ hnew_; clear hg_ hnew_; (first | rw [← Ny383.out] at ho4 | (simp only [Int.reduceToNat] at ho4; rw [← Ny383.out] at ho4)); have HO385 := Aside0.mk (Kd.R_lower ho4 (below_size (bw HB.out))); replace HB := Aside0.mk (below_step (bw HB.out) hb); clear hb ho4))
  go_ret2
  exact ⟨_, rt, kr HO385.out, bw HB.out⟩
 ·rw [if_neg c2] at H
  have c2b0 : decide (3000 < (a0.size : Int)) = false := decide_eq_false c2
  have c2b1 : decide (3000 < a0.size) = false := decide_eq_false (by omega)
  clear c2
  by_cases c5 : 256 ≤ 35184372088832
  ·rw [if_pos c5] at H
   have c5b0 := eq_true c5
   have c5b1 : decide (256 ≤ 35184372088832) = true := decide_eq_true c5
   clear c5
   obtain ⟨y386, hy386⟩ : ∃ y_ : List Int, y_ = (List.replicate 256 0) := ⟨_, rfl⟩
   replace H : (spec_Assemble.l0 k a0 y386 0 0 0 0) = some (r1, r2) := by first | (rw [hy386]; with_reducible exact H) | (have H2_ := (Option.bind_some _ _).symm.trans H; rw [hy386]; with_reducible exact H2_) | (have H2_ := (Option.bind_some _ _).symm.trans H; with_reducible exact H2_) | with_reducible exact H | (rw [hy386]; exact H) | exact H
   have Ny386 := Aside0.mk hy386
   clear hy386
   have H' := Aside0.mk H
   clear H
   go_enter Try.func106, Try.ntmps106
   go_wp2_with (first | ((with_reducible refine gate_dst (N := 18) rfl ?_); (try (refine gate_guard (by rfl) ?_; dsimp only)); refine Kd.R_make (Kd.int .i64) _ 3 rfl (N := 18) rfl 30 _ _ rfl 256 rfl rfl Try.underlying30 (.int .i64 0) 8 info3 rfl (by decide) (by omega) 0 (ok := fun _ => True) (okp := fun _ => True) rfl (fun _ hk => hk) trivial (by omega) (by omega) (Below.refl _ _) (Nat.le_refl _) ?_; intro v387 w6 ho7 hb hg_ hnew_; clear hg_ hnew_; (first | rw [← Ny386.out] at ho7 | (simp only [Int.reduceToNat] at ho7; rw [← Ny386.out] at ho7)); have HO388 := Aside0.mk (Kd.R_lower ho7 (below_size (bw HB.out))); replace HB := Aside0.mk (below_step (bw HB.out) hb); clear hb ho7))
   go_loopg [5, 6, 7, 8] k (fun kq v5 v6 v7 v8 w' => ∃ (x4_1 : List Int) (x5_1 : Int) (x6_1 : Int) (x7_1 : Int) (x8_1 : Int), v5 = .int .i64 x5_1 ∧ v6 = .int .i64 x6_1 ∧ v7 = .int .i64 x7_1 ∧ v8 = .int .i64 x8_1 ∧ Aside0 (spec_Assemble.l0 kq a0 x4_1 x5_1 x6_1 x7_1 x8_1 = some (r1, r2)) ∧ Aside0 (kq ≤ k) ∧ Aside0 (Kd.R (Kd.int .i64) 3 w' w.heap.size (fun _ => True) v387 x4_1) ∧ Aside0 (Below w.heap.size w w'))
   case atStart => exact ⟨(y386), (0), (0), (0), (0), (by first | rfl | (simp; done) | (simp [*]; done)), (by first | rfl | (simp; done) | (simp [*]; done)), (by first | rfl | (simp; done) | (simp [*]; done)), (by first | rfl | (simp; done) | (simp [*]; done)), H', ⟨Nat.le_refl _⟩, ⟨kr HO388.out⟩, ⟨bw HB.out⟩⟩
   case round =>
    clear H'
    (try clear c1); (try clear c2); (try clear c2b0); (try clear c2b1); (try clear p2); (try clear c5); (try clear c5b0); (try clear c5b1)
    obtain ⟨x4_1, x5_1, x6_1, x7_1, x8_1, rfl, rfl, rfl, rfl, HA, HK1, HO_4, HB⟩ := hrel
    cases gk with
    | zero => exact absurd HA.out (by simp [spec_Assemble.l0])
    | succ k1 =>
     have H := HA.out
     clear HA
     simp only [spec_Assemble.l0] at H
     by_cases c8 : x8_1 ≤ (a0.size : Int)
     ·rw [if_pos c8] at H
      have c8b0 : decide (x8_1 ≤ (a0.size : Int)) = true := decide_eq_true c8
      clear c8
      have HC9 := Aside0.mk H
      clear H
      go_upto_region 8 with (fail)
      go_cut [46] (fun v46 wc => ∃ (kq : Nat) (x46_8 : Bool), v46 = .bool x46_8 ∧ Aside0 (spec_Assemble.j1 kq a0 x4_1 x5_1 x6_1 x7_1 x8_1 x46_8 = some (r1, r2)) ∧ Aside0 (kq ≤ k1) ∧ Aside0 (Kd.R (Kd.int .i64) 3 wc w.heap.size (fun _ => True) v387 x4_1) ∧ Aside0 (Below w.heap.size w wc))
      case first =>
       have H := HC9.out
       clear HC9
       by_cases c10 : x8_1 < (a0.size : Int)
       ·rw [if_pos c10] at H
        have c10b0 : decide (x8_1 < (a0.size : Int)) = true := decide_eq_true c10
        clear c10
        (first | rw [c10b0] | (simp only [i64_w, i32_w]; rw [c10b0]) | skip)
        by_cases c11 : 0 ≤ x8_1
        ·rw [if_pos c11] at H
         have c11b0 : decide (0 ≤ x8_1) = true := decide_eq_true c11
         clear c11
         by_cases c13 : (bt a0 x8_1) = 10
         ·rw [if_pos c13] at H
          have c13b0 : ((bt a0 x8_1) == 10) = true := beq_iff_eq.mpr c13
          have c13b1 : ((bt a0 x8_1) != 10) = false := bne_eq_false_iff_eq.mpr c13
          clear c13
          by_cases c14 : x8_1 = (a0.size : Int)
          ·rw [if_pos c14] at H
           have c14b0 : (x8_1 == (a0.size : Int)) = true := beq_iff_eq.mpr c14
           have c14b1 : (x8_1 != (a0.size : Int)) = false := bne_eq_false_iff_eq.mpr c14
           clear c14
           have H' := Aside0.mk H
           clear H
           have p12 : 0 ≤ (x8_1 : Int) := dt
           have q12 : x8_1 < (a0.size : Int) := dt
           have hx12 := bt_at a0 x8_1
           replace p12 := eq_true p12
           replace q12 := eq_true q12
           go_wp2
           go_meet
           case rel => exact ⟨_, ((x6_1 == (a0.size : Int))), (by first | rfl | (simp; done) | (simp [*]; done)), H', ⟨by have := HK1.out; first | omega | exact Nat.le_refl _⟩, ⟨kr HO_4.out⟩, ⟨bw HB.out⟩⟩
          ·rw [if_neg c14] at H
           have c14b0 : (x8_1 == (a0.size : Int)) = false := beq_eq_false_iff_ne.mpr c14
           have c14b1 : (x8_1 != (a0.size : Int)) = true := bne_iff_ne.mpr c14
           have H' := Aside0.mk H
           clear H
           have p12 : 0 ≤ (x8_1 : Int) := dt
           have q12 : x8_1 < (a0.size : Int) := dt
           have hx12 := bt_at a0 x8_1
           replace p12 := eq_true p12
           replace q12 := eq_true q12
           go_wp2
           go_meet
           case rel => exact ⟨_, (false), (by first | rfl | (simp; done) | (simp [*]; done)), H', ⟨by have := HK1.out; first | omega | exact Nat.le_refl _⟩, ⟨kr HO_4.out⟩, ⟨bw HB.out⟩⟩
         ·rw [if_neg c13] at H
          have c13b0 : ((bt a0 x8_1) == 10) = false := beq_eq_false_iff_ne.mpr c13
          have c13b1 : ((bt a0 x8_1) != 10) = true := bne_iff_ne.mpr c13
          have H' := Aside0.mk H
          clear H
          have p12 : 0 ≤ (x8_1 : Int) := dt
          have q12 : x8_1 < (a0.size : Int) := dt
          have hx12 := bt_at a0 x8_1
          replace p12 := eq_true p12
          replace q12 := eq_true q12
          go_wp2
          go_meet
          case rel => exact ⟨_, (true), (by first | rfl | (simp; done) | (simp [*]; done)), H', ⟨by have := HK1.out; first | omega | exact Nat.le_refl _⟩, ⟨kr HO_4.out⟩, ⟨bw HB.out⟩⟩
        ·rw [if_neg c11] at H
         exact absurd H (by simp)
       ·rw [if_neg c10] at H
        have c10b0 : decide (x8_1 < (a0.size : Int)) = false := decide_eq_false c10
        clear c10
        (first | rw [c10b0] | (simp only [i64_w, i32_w]; rw [c10b0]) | skip)
        by_cases c15 : x8_1 = (a0.size : Int)
        ·rw [if_pos c15] at H
         have c15b0 : (x8_1 == (a0.size : Int)) = true := beq_iff_eq.mpr c15
         have c15b1 : (x8_1 != (a0.size : Int)) = false := bne_eq_false_iff_eq.mpr c15
         clear c15
         have H' := Aside0.mk H
         clear H
         go_wp2
         go_meet
         case rel => exact ⟨_, ((x6_1 == (a0.size : Int))), (by first | rfl | (simp; done) | (simp [*]; done)), H', ⟨by have := HK1.out; first | omega | exact Nat.le_refl _⟩, ⟨kr HO_4.out⟩, ⟨bw HB.out⟩⟩
        ·rw [if_neg c15] at H
         have c15b0 : (x8_1 == (a0.size : Int)) = false := beq_eq_false_iff_ne.mpr c15
         have c15b1 : (x8_1 != (a0.size : Int)) = true := bne_iff_ne.mpr c15
         have H' := Aside0.mk H
         clear H
         go_wp2
         go_meet
         case rel => exact ⟨_, (false), (by first | rfl | (simp; done) | (simp [*]; done)), H', ⟨by have := HK1.out; first | omega | exact Nat.le_refl _⟩, ⟨kr HO_4.out⟩, ⟨bw HB.out⟩⟩
      case rest =>
       clear HC9; (try clear c1); (try clear p1); (try clear q1); (try clear hx1); (try clear c2); (try clear c2b0); (try clear c2b1); (try clear p2); (try clear c5); (try clear c5b0); (try clear c5b1); (try clear c8); (try clear c8b0); (try clear c10); (try clear c10b0); (try clear c11); (try clear c11b0); (try clear p12); (try clear q12); (try clear hx12); (try clear c13); (try clear c13b0); (try clear c13b1); (try clear c14); (try clear c14b0); (try clear c14b1); (try clear c15); (try clear c15b0); (try clear c15b1); (try clear p12); (try clear p2); (try clear q12)
       obtain ⟨kq, x46_8, rfl, HA, HJ8, HO_4, HB⟩ := hcut
       cases kq with
       | zero => exact absurd HA.out (by simp [spec_Assemble.j1])
       | succ kj8 =>
        have H := HA.out
        clear HA
        simp only [spec_Assemble.j1] at H
        by_cases c16 : x46_8 = true
        ·subst c16
         have H1 : (spec_Assemble.l0 kj8 a0 x4_1 x5_1 x6_1 x7_1 (wrap64 (x8_1 + 1))) = some (r1, r2) := by rw [if_pos rfl] at H; exact H
         clear H
         have H := H1
         clear H1
         have H' := Aside0.mk H
         clear H
         go_wp2
         go_roundg kj8
         case measure => have := HK1.out; have := HJ8.out; omega
         case rel => exact ⟨(x4_1), (x5_1), (x6_1), (x7_1), (wrap64 (x8_1 + 1)), (by first | rfl | (simp; done) | (simp [*]; done)), (by first | rfl | (simp; done) | (simp [*]; done)), (by first | rfl | (simp; done) | (simp [*]; done)), (by first | rfl | (simp; done) | (simp [*]; done)), H', ⟨by have := HK1.out; have := HJ8.out; omega⟩, ⟨kr HO_4.out⟩, ⟨bw HB.out⟩⟩
        ·replace c16 := Bool.eq_false_iff.mpr c16
         subst c16
         have H1 : (if 0 ≤ x6_1 then (if x6_1 ≤ x8_1 then (if x8_1 ≤ (a0.size : Int) then (if (a0.extract (x6_1 : Int).toNat (x8_1 : Int).toNat).toList = ([] : List UInt8) then (spec_Assemble.l0 kj8 a0 x4_1 x5_1 (wrap64 (x8_1 + 1)) (wrap64 (x7_1 + 1)) (wrap64 (x8_1 + 1))) else ((spec_l4Bytes.f kj8 (a0.extract (x6_1 : Int).toNat (x8_1 : Int).toNat)).bind fun bt389 => (if bt389.2.2 = true then (if bt389.2.1 ≥ 0 then (spec_Assemble.j2 kj8 a0 x4_1 bt389.2.1 (wrap64 (x8_1 + 1)) (wrap64 (x7_1 + 1)) x8_1 bt389.1) else (spec_Assemble.j2 kj8 a0 x4_1 x5_1 (wrap64 (x8_1 + 1)) (wrap64 (x7_1 + 1)) x8_1 bt389.1)) else (some ((([] : List Int)), wrap64 (x7_1 + 1)))))) else (none)) else (none)) else (none)) = some (r1, r2) := by rw [if_neg (show ¬ (false = true) by decide)] at H; exact H
         clear H
         have H := H1
         clear H1
         by_cases c17 : 0 ≤ x6_1
         ·rw [if_pos c17] at H
          have c17b0 := eq_true c17
          have c17b1 : decide (0 ≤ x6_1) = true := decide_eq_true c17
          clear c17
          by_cases c18 : x6_1 ≤ x8_1
          ·rw [if_pos c18] at H
           have c18b0 := eq_true c18
           have c18b1 : decide (x6_1 ≤ x8_1) = true := decide_eq_true c18
           clear c18
           by_cases c19 : x8_1 ≤ (a0.size : Int)
           ·rw [if_pos c19] at H
            have c19b0 := eq_true c19
            have c19b1 : decide (x8_1 ≤ (a0.size : Int)) = true := decide_eq_true c19
            clear c19
            by_cases c20 : (a0.extract (x6_1 : Int).toNat (x8_1 : Int).toNat).toList = ([] : List UInt8)
            ·rw [if_pos c20] at H
             have c20b0 : ((a0.extract (x6_1 : Int).toNat (x8_1 : Int).toNat).toList == ([] : List UInt8)) = true := beq_iff_eq.mpr c20
             have c20b1 : ((a0.extract (x6_1 : Int).toNat (x8_1 : Int).toNat).toList != ([] : List UInt8)) = false := bne_eq_false_iff_eq.mpr c20
             clear c20
             have H' := Aside0.mk H
             clear H
             go_wp2
             go_roundg kj8
             case measure => have := HK1.out; have := HJ8.out; omega
             case rel => exact ⟨(x4_1), (x5_1), (wrap64 (x8_1 + 1)), (wrap64 (x7_1 + 1)), (wrap64 (x8_1 + 1)), (by first | rfl | (simp; done) | (simp [*]; done)), (by first | rfl | (simp; done) | (simp [*]; done)), (by first | rfl | (simp; done) | (simp [*]; done)), (by first | rfl | (simp; done) | (simp [*]; done)), H', ⟨by have := HK1.out; have := HJ8.out; omega⟩, ⟨kr HO_4.out⟩, ⟨bw HB.out⟩⟩
            ·rw [if_neg c20] at H
             have c20b0 : ((a0.extract (x6_1 : Int).toNat (x8_1 : Int).toNat).toList == ([] : List UInt8)) = false := beq_eq_false_iff_ne.mpr c20
             have c20b1 : ((a0.extract (x6_1 : Int).toNat (x8_1 : Int).toNat).toList != ([] : List UInt8)) = true := bne_iff_ne.mpr c20
             replace H := Option.bind_eq_some_iff.mp H
             obtain ⟨⟨t389, t390, t391⟩, A210, H⟩ := H
             replace H : (if t391 = true then (if t390 ≥ 0 then (spec_Assemble.j2 kj8 a0 x4_1 t390 (wrap64 (x8_1 + 1)) (wrap64 (x7_1 + 1)) x8_1 t389) else (spec_Assemble.j2 kj8 a0 x4_1 x5_1 (wrap64 (x8_1 + 1)) (wrap64 (x7_1 + 1)) x8_1 t389)) else (some ((([] : List Int)), wrap64 (x7_1 + 1)))) = some (r1, r2) := H
             have A21 := Aside0.mk A210
             clear A210
             by_cases c22 : t391 = true
             ·subst c22
              have H1 : (if t390 ≥ 0 then (spec_Assemble.j2 kj8 a0 x4_1 t390 (wrap64 (x8_1 + 1)) (wrap64 (x7_1 + 1)) x8_1 t389) else (spec_Assemble.j2 kj8 a0 x4_1 x5_1 (wrap64 (x8_1 + 1)) (wrap64 (x7_1 + 1)) x8_1 t389)) = some (r1, r2) := by rw [if_pos rfl] at H; exact H
              clear H
              have H := H1
              clear H1
              have HC23 := Aside0.mk H
              clear H
              go_upto_if 68 with (first | ((with_reducible refine gate_callee (f := 118) rfl ?_); refine goesM_ (some 59) rfl rfl Try.func118 #[.string (a0.extract (x6_1 : Int).toNat (x8_1 : Int).toNat)] ?_; (with_reducible refine (spec_l4Bytes.calls kj8 (a0.extract (x6_1 : Int).toNat (x8_1 : Int).toNat) t389 t390 true _ A21.out).mono ?_); rintro e w24 ⟨v392, rfl, ho0, hb⟩; refine ⟨_, rfl, ?_⟩; have HO393 := Aside0.mk (Kd.R_lower (Kd.R_new' ho0 (Kd.R_lt (kr HO_4.out))) (below_size (bw HB.out))); replace HO_4 := Aside0.mk (Kd.R_elder' (kr HO_4.out) (Kd.R_base ho0) hb); replace HB := Aside0.mk (below_step (bw HB.out) hb); (try clear hb); (try clear hb2); (try clear hk); (try clear hi); (try clear ho0)))
              (try simp only [Act.put, List.setIfInBounds_toArray, List.set_cons_zero, List.set_cons_succ])
              go_cut [5] (fun v5 wc => ∃ (kq : Nat) (x5_22 : Int), v5 = .int .i64 x5_22 ∧ Aside0 (spec_Assemble.j2 kq a0 x4_1 x5_22 (wrap64 (x8_1 + 1)) (wrap64 (x7_1 + 1)) x8_1 t389 = some (r1, r2)) ∧ Aside0 (kq ≤ kj8) ∧ Aside0 (Kd.R (Kd.int .i64) 3 wc w.heap.size (fun k_ => some k_ ≠ (v392 : Value).ownBlock) v387 x4_1) ∧ Aside0 (Kd.R (Kd.int .i64) 3 wc w.heap.size (fun k_ => some k_ ≠ (v387 : Value).ownBlock) v392 t389) ∧ Aside0 (Below w.heap.size w wc))
              case first =>
               have H := HC23.out
               clear HC23
               by_cases c25 : t390 ≥ 0
               ·rw [if_pos c25] at H
                have c25b0 : decide (0 ≤ t390) = true := decide_eq_true c25
                clear c25
                (first | rw [c25b0] | (simp only [i64_w, i32_w]; rw [c25b0]) | skip)
                have H' := Aside0.mk H
                clear H
                go_wp2
                go_meet
                case rel => exact ⟨_, (t390), (by first | rfl | (simp; done) | (simp [*]; done)), H', ⟨by have := HK1.out; have := HJ8.out; first | omega | exact Nat.le_refl _⟩, ⟨kr (Kd.R_mono HO_4.out (fun _ hk => hk.2))⟩, ⟨kr (Kd.R_mono HO393.out (fun _ hk => hk.2))⟩, ⟨bw HB.out⟩⟩
               ·rw [if_neg c25] at H
                have c25b0 : decide (0 ≤ t390) = false := decide_eq_false c25
                clear c25
                (first | rw [c25b0] | (simp only [i64_w, i32_w]; rw [c25b0]) | skip)
                have H' := Aside0.mk H
                clear H
                go_wp2
                go_meet
                case rel => exact ⟨_, (x5_1), (by first | rfl | (simp; done) | (simp [*]; done)), H', ⟨by have := HK1.out; have := HJ8.out; first | omega | exact Nat.le_refl _⟩, ⟨kr (Kd.R_mono HO_4.out (fun _ hk => hk.2))⟩, ⟨kr (Kd.R_mono HO393.out (fun _ hk => hk.2))⟩, ⟨bw HB.out⟩⟩
              case rest =>
               clear HC23; (try clear c1); (try clear p1); (try clear q1); (try clear hx1); (try clear c2); (try clear c2b0); (try clear c2b1); (try clear p2); (try clear c5); (try clear c5b0); (try clear c5b1); (try clear p6); (try clear c8); (try clear c8b0); (try clear c10); (try clear c10b0); (try clear c11); (try clear c11b0); (try clear p12); (try clear q12); (try clear hx12); (try clear c13); (try clear c13b0); (try clear c13b1); (try clear c14); (try clear c14b0); (try clear c14b1); (try clear c15); (try clear c15b0); (try clear c15b1); (try clear c16); (try clear c17); (try clear c17b0); (try clear c17b1); (try clear c18); (try clear c18b0); (try clear c18b1); (try clear c19); (try clear c19b0); (try clear c19b1); (try clear c20); (try clear c20b0); (try clear c20b1); (try clear c22); (try clear c25); (try clear c25b0); (try clear p1); (try clear p12); (try clear p2); (try clear q1); (try clear q12)
               obtain ⟨kq, x5_22, rfl, HA, HJ22, HO_4, HO_10, HB⟩ := hcut
               cases kq with
               | zero => exact absurd HA.out (by simp [spec_Assemble.j2])
               | succ kj22 =>
                have H := HA.out
                clear HA
                simp only [spec_Assemble.j2] at H
                have H' := Aside0.mk H
                clear H
                go_wp2
                go_loopg [5, 13] kj22 (fun kq v5 v13 w' => ∃ (x4_4 : List Int) (x5_4 : Int) (x13_4 : Int), v5 = .int .i64 x5_4 ∧ v13 = .int .i64 x13_4 ∧ Aside0 (spec_Assemble.l1 kq a0 x4_4 x5_4 (wrap64 (x8_1 + 1)) (wrap64 (x7_1 + 1)) x8_1 t389 x13_4 = some (r1, r2)) ∧ Aside0 (kq ≤ kj22) ∧ Aside0 (Kd.R (Kd.int .i64) 3 w' w.heap.size (fun k_ => some k_ ≠ (v392 : Value).ownBlock) v387 x4_4) ∧ Aside0 (Kd.R (Kd.int .i64) 3 w' w.heap.size (fun k_ => some k_ ≠ (v387 : Value).ownBlock) v392 t389) ∧ Aside0 (Below w.heap.size w w'))
                case atStart => exact ⟨(x4_1), (x5_22), (0), (by first | rfl | (simp; done) | (simp [*]; done)), (by first | rfl | (simp; done) | (simp [*]; done)), H', ⟨Nat.le_refl _⟩, ⟨kr HO_4.out⟩, ⟨kr HO_10.out⟩, ⟨bw HB.out⟩⟩
                case round =>
                 clear H'
                 (try clear c1); (try clear p1); (try clear q1); (try clear hx1); (try clear c2); (try clear c2b0); (try clear c2b1); (try clear p2); (try clear c5); (try clear c5b0); (try clear c5b1); (try clear p6); (try clear c8); (try clear c8b0); (try clear c10); (try clear c10b0); (try clear c11); (try clear c11b0); (try clear p12); (try clear q12); (try clear hx12); (try clear c13); (try clear c13b0); (try clear c13b1); (try clear c14); (try clear c14b0); (try clear c14b1); (try clear c15); (try clear c15b0); (try clear c15b1); (try clear c16); (try clear c17); (try clear c17b0); (try clear c17b1); (try clear c18); (try clear c18b0); (try clear c18b1); (try clear c19); (try clear c19b0); (try clear c19b1); (try clear c20); (try clear c20b0); (try clear c20b1); (try clear c22); (try clear c25); (try clear c25b0); (try clear p1); (try clear p12); (try clear p2); (try clear p6); (try clear q1); (try clear q12)
                 obtain ⟨x4_4, x5_4, x13_4, rfl, rfl, HA, HK4, HO_4, HO_10, HB⟩ := hrel
                 cases gk with
                 | zero => exact absurd HA.out (by simp [spec_Assemble.l1])
                 | succ k4 =>
                  have H := HA.out
                  clear HA
                  simp only [spec_Assemble.l1] at H
                  by_cases c26 : x13_4 < (t389.length : Int)
                  ·rw [if_pos c26] at H
                   have c26b0 : decide (x13_4 < (t389.length : Int)) = true := decide_eq_true c26
                   clear c26
                   replace H := Option.bind_eq_some_iff.mp H
                   obtain ⟨t397, A270, H⟩ := H
                   replace H : (if 0 ≤ x13_4 then (if 0 ≤ t397 then (if t397 < (x4_4.length : Int) then (spec_Assemble.l1 k4 a0 (x4_4.set (t397 : Int).toNat (rd t389 x13_4)) (wrap64 (x5_4 + 1)) (wrap64 (x8_1 + 1)) (wrap64 (x7_1 + 1)) x8_1 t389 (wrap64 (x13_4 + 1))) else (none)) else (none)) else (none)) = some (r1, r2) := H
                   have A27 := Aside0.mk A270
                   clear A270
                   by_cases c28 : 0 ≤ x13_4
                   ·rw [if_pos c28] at H
                    have c28b0 : decide (0 ≤ x13_4) = true := decide_eq_true c28
                    clear c28
                    by_cases c29 : 0 ≤ t397
                    ·rw [if_pos c29] at H
                     have c29b0 : decide (0 ≤ t397) = true := decide_eq_true c29
                     clear c29
                     by_cases c30 : t397 < (x4_4.length : Int)
                     ·rw [if_pos c30] at H
                      have c30b0 : decide (t397 < (x4_4.length : Int)) = true := decide_eq_true c30
                      clear c30
                      obtain ⟨y399, hy399⟩ : ∃ y_ : List Int, y_ = (x4_4.set (t397 : Int).toNat (rd t389 x13_4)) := ⟨_, rfl⟩
                      replace H : (spec_Assemble.l1 k4 a0 y399 (wrap64 (x5_4 + 1)) (wrap64 (x8_1 + 1)) (wrap64 (x7_1 + 1)) x8_1 t389 (wrap64 (x13_4 + 1))) = some (r1, r2) := by first | (rw [hy399]; with_reducible exact H) | (have H2_ := (Option.bind_some _ _).symm.trans H; rw [hy399]; with_reducible exact H2_) | (have H2_ := (Option.bind_some _ _).symm.trans H; with_reducible exact H2_) | with_reducible exact H | (rw [hy399]; exact H) | exact H
                      have Ny399 := Aside0.mk hy399
                      clear hy399
                      have H' := Aside0.mk H
                      clear H
                      obtain ⟨Ao32, co32, eo32⟩ := Kd.R_slice HO_10.out
                      subst eo32
                      try go_wp2
                      replace HO_4 := Aside0.mk (Kd.R_drew HO_4.out)
                      replace HO_10 := Aside0.mk (Kd.R_drew HO_10.out)
                      replace HB := Aside0.mk (below_drew1 HB.out)
                      have p398 : 0 ≤ (x13_4 : Int) := dt
                      have q398 : x13_4 < (t389.length : Int) := dt
                      obtain ⟨ad398, e398, hx398_0⟩ := Kd.at_int (Kd.R_reads' HO_10.out).2.2 x13_4 p398 q398
                      cases e398
                      replace p398 := eq_true p398
                      replace q398 := eq_true q398
                      refine start_ (n := 9) (S := fun w' => w'.cell? (ad398.add (x13_4).toNat) = some (.int .i64 (rd t389 x13_4))) (ds := [8]) (bm 9 0) (by kernel_rfl) rfl (by kernel_rfl) (hx398_0) (fun hHeld => ?_); refine with_tabW spec_Assemble.tab21 spec_Assemble.bits21 (fun HT_ HW_ => ?_)
                      generalize wr.drew = w33 at HO_4 HO_10 HB hx398_0 hHeld ⊢
                      refine pw_ 0 (some 76) (bm 9 1) HT_ ?_
                      refine pw_ 1 (some 77) (bm 9 3) HT_ ?_
                      refine pw_ 3 (some 79) (bm 9 11) HT_ ?_
                      refine pw_ 4 (some 80) (bm 9 27) HT_ ?_
                      refine pw_ 5 (some 81) (bm 9 59) HT_ ?_
                      refine tw_ 6 (some 82) (bm 9 123) HT_ HW_ hHeld ?_
                      refine ow_ 2 (some 78) (bm 9 127) HT_ (fun K hK => ?_)
                      refine gw_ Try.func71 #[.int .i64 x5_4] ?_
                      with_reducible refine (spec_Byte.calls x5_4 t397 _ A27.out).mono ?_
                      rintro e w' ⟨rfl, ⟨nd, rfl⟩⟩
                      refine ⟨_, rfl, ?_⟩
                      have p31 : 0 ≤ (t397 : Int) := dt
                      have q31 : (t397 : Int) < ((x4_4.length : Int) : Int) := dt
                      obtain ⟨go31, co31, eo31, gb31, gl31, cl31, HG31⟩ := Kd.R_form HO_4.out (by omega)
                      (first | cases eo31 | (injection eo31 with ea_ en_ ec_; (first | subst ea_ | (injection ea_ with ea_; subst ea_)); subst ec_; clear en_))
                      have GB31 := Aside0.mk gb31
                      have GG31 := Aside0.mk HG31
                      clear gb31 gl31 HG31
                      obtain ⟨hx31_0, hf31_0⟩ := Kd.R_celln 0 HO_4.out (t397 : Int) p31 q31
                      replace p31 := eq_true p31
                      replace q31 := eq_true q31
                      have HP34 := Kd.R_putn HO_4.out (t397 : Int) (rd t389 x13_4)
                      rw [← Ny399.out] at HP34
                      have HQ34 := Aside0.mk HP34
                      clear HP34
                      refine hK.out _ _ (hHeld) (fun hHeld => ?_)
                      clear hK K
                      refine nw_ 78 ?_
                      refine pw_ 7 (some 83) (bm 9 255) HT_ ?_
                      refine last_ (i := 8) (N := none) #[true, true, true, true, true, true, true, true, true] rfl rfl (one_of HT_.out (by kernel_rfl)) (by decide) (fun K hK => ?_)
                      refine skip_ (w1 := ?_) (by rfl) rfl ?_ ?_
                      rotate_left
                      ·go_simp
                       rfl
                      refine hK.out _ _ ?_
                      clear hK K
                      refine done_ (done_of HT_.out (by kernel_rfl)) ?_
                      try go_wp2
                      go_roundg k4
                      case measure => have := HK1.out; have := HJ8.out; have := HJ22.out; have := HK4.out; omega
                      case rel => exact ⟨(y399), (wrap64 (x5_4 + 1)), (wrap64 (x13_4 + 1)), (by first | rfl | (simp; done) | (simp [*]; done)), (by first | rfl | (simp; done) | (simp [*]; done)), H', ⟨by have := HK1.out; have := HJ8.out; have := HJ22.out; have := HK4.out; omega⟩, ⟨kr HQ34.out⟩, ⟨by (with_reducible repeat (first | apply Kd.R_alloc | apply Kd.R_drewN | apply Kd.R_drew)); exact Kd.R_mono (Kd.R_far (p := ⟨go31, (t397 : Int).toNat, none⟩) (Kd.R_mono HO_10.out (fun k_ hk => (⟨hk, fun e_ => hk (by rw [e_]; rfl)⟩ : _ ∧ k_ ≠ go31))) (fun _ hk => hk.2) (.int .i64 (rd t389 x13_4))) (fun _ hk => hk.1)⟩, ⟨by repeat (first | (with_reducible first | exact HB.out | apply below_alloc | apply pw_below_drewN | apply below_drew1 | refine below_set ?_ GB31.out) | exact HB.out)⟩⟩
                     ·rw [if_neg c30] at H
                      exact absurd H (by simp)
                    ·rw [if_neg c29] at H
                     exact absurd H (by simp)
                   ·rw [if_neg c28] at H
                    exact absurd H (by simp)
                  ·rw [if_neg c26] at H
                   have c26b0 : decide (x13_4 < (t389.length : Int)) = false := decide_eq_false c26
                   clear c26
                   have H' := Aside0.mk H
                   clear H
                   obtain ⟨Ao35, co35, eo35⟩ := Kd.R_slice HO_10.out
                   subst eo35
                   go_wp2
                   go_roundg k4
                   case measure => have := HK1.out; have := HJ8.out; have := HJ22.out; have := HK4.out; omega
                   case rel => exact ⟨(x4_4), (x5_4), ((wrap64 (x8_1 + 1))), ((wrap64 (x7_1 + 1))), (wrap64 (x8_1 + 1)), (by first | rfl | (simp; done) | (simp [*]; done)), (by first | rfl | (simp; done) | (simp [*]; done)), (by first | rfl | (simp; done) | (simp [*]; done)), (by first | rfl | (simp; done) | (simp [*]; done)), H', ⟨by have := HK1.out; have := HJ8.out; have := HJ22.out; have := HK4.out; omega⟩, ⟨kr (Kd.R_mono HO_4.out (fun _ hk => trivial))⟩, ⟨bw HB.out⟩⟩
             ·replace c22 := Bool.eq_false_iff.mpr c22
              subst c22
              have H1 : (some ((([] : List Int)), wrap64 (x7_1 + 1))) = some (r1, r2) := by rw [if_neg (show ¬ (false = true) by decide)] at H; exact H
              clear H
              have H := H1
              clear H1
              obtain ⟨y394, hy394⟩ : ∃ y_ : List Int, y_ = (([] : List Int)) := ⟨_, rfl⟩
              replace H : (some (y394, wrap64 (x7_1 + 1))) = some (r1, r2) := by first | (rw [hy394]; with_reducible exact H) | (have H2_ := (Option.bind_some _ _).symm.trans H; rw [hy394]; with_reducible exact H2_) | (have H2_ := (Option.bind_some _ _).symm.trans H; with_reducible exact H2_) | with_reducible exact H | (rw [hy394]; exact H) | exact H
              have Ny394 := Aside0.mk hy394
              clear hy394
              simp only [Option.some.injEq, Prod.mk.injEq] at H
              obtain ⟨rfl, rfl⟩ := H
              go_wp2_with (first | ((with_reducible refine gate_callee (f := 118) rfl ?_); refine goesM_ (some 59) rfl rfl Try.func118 #[.string (a0.extract (x6_1 : Int).toNat (x8_1 : Int).toNat)] ?_; (with_reducible refine (spec_l4Bytes.calls kj8 (a0.extract (x6_1 : Int).toNat (x8_1 : Int).toNat) t389 t390 false _ A21.out).mono ?_); rintro e w36 ⟨v392, rfl, ho0, hb⟩; refine ⟨_, rfl, ?_⟩; have HO393 := Aside0.mk (Kd.R_lower (Kd.R_new' ho0 (Kd.R_lt (kr HO_4.out))) (below_size (bw HB.out))); replace HO_4 := Aside0.mk (Kd.R_elder' (kr HO_4.out) (Kd.R_base ho0) hb); replace HB := Aside0.mk (below_step (bw HB.out) hb); (try clear hb); (try clear hb2); (try clear hk); (try clear hi); (try clear ho0)) | ((with_reducible refine gate_dst (N := 65) rfl ?_); (try (refine gate_guard (by rfl) ?_; dsimp only)); refine Kd.R_lit (Kd.int .i64) _ 3 ?hg (N := 65) ?hd (xs := ([] : List Int)) (inner := []) (ok := fun _ => True) (okp := fun _ => True) ?hr ?hp (fun _ hk => hk) trivial (Below.refl _ _) (Nat.le_refl _) (by simp) ?_; (case hd => rfl); (case hg => rfl); (case hr => first | (go_simp; done) | (go_simp; rfl)); (case hp => exact (Reps.none _ _)); intro v395 w37 ho38 hb hg_ hnew_; clear hg_ hnew_; (first | rw [← Ny394.out] at ho38 | (simp only [Int.reduceToNat] at ho38; rw [← Ny394.out] at ho38)); have HO396 := Aside0.mk (Kd.R_lower (Kd.R_new' (Kd.R_new' ho38 (Kd.R_lt (kr HO_4.out))) (Kd.R_lt (kr HO393.out))) (below_size (bw HB.out))); replace HO_4 := Aside0.mk (Kd.R_elder' (kr HO_4.out) (Kd.R_base ho38) hb); replace HO393 := Aside0.mk (Kd.R_elder' (kr HO393.out) (Kd.R_base ho38) hb); replace HB := Aside0.mk (below_step (bw HB.out) hb); clear hb ho38))
              go_ret2
              exact ⟨_, rt, kr (Kd.R_mono HO396.out (fun _ hk => trivial)), bw HB.out⟩
           ·rw [if_neg c19] at H
            exact absurd H (by simp)
          ·rw [if_neg c18] at H
           exact absurd H (by simp)
         ·rw [if_neg c17] at H
          exact absurd H (by simp)
     ·rw [if_neg c8] at H
      have c8b0 : decide (x8_1 ≤ (a0.size : Int)) = false := decide_eq_false c8
      clear c8
      simp only [Option.some.injEq, Prod.mk.injEq] at H
      obtain ⟨rfl, rfl⟩ := H
      go_wp2
      go_ret2
      exact ⟨_, rt, kr HO_4.out, bw HB.out⟩
  ·rw [if_neg c5] at H
   exact absurd H (by simp)

/-! ### spec_l1Pick: function 119 -/
def spec_l1Pick.f (s0_0 : List Int) (s0_1 : Int) (s0_2 : Int) (l1 : List ByteArray) : Option (ByteArray × Int × Int) := (spec_l1Below.f s0_0 s0_1 s0_2 (l1.length : Int)).bind fun bt400 => (if 0 ≤ bt400.1 then (if bt400.1 < (l1.length : Int) then (some (rdOf ByteArray.empty l1 bt400.1, bt400.2.1, bt400.2.2)) else (none)) else (none))
set_option maxHeartbeats 8000000 in
set_option maxRecDepth 100000 in
theorem spec_l1Pick.calls (g : Nat) (s0_0 : List Int) (s0_1 : Int) (s0_2 : Int) (A1 : Option Addr) (c1 : Nat) (l1 : List ByteArray) (r1 : ByteArray) (r2 : Int) (r3 : Int) (w0 w : World) (hI : IsS107 w0 w g s0_0 s0_1 s0_2) (hB : Below w0.heap.size w0 w) (hr1 : Kd.C Kd.string w A1 l1.length l1) (hc1 : l1.length ≤ c1) (hf1 : ∀ ad, A1 = some ad → 0 < l1.length → ad.block ≠ g) (h : spec_l1Pick.f s0_0 s0_1 s0_2 l1 = some (r1, r2, r3)) :
  Calls Try.prog 119 #[.pointer (some ⟨g, 0, none⟩), .slice A1 l1.length c1] w fun e w' => e = .returned (.string r1) ∧ IsS107 w0 w' g s0_0 r2 r3 ∧ Below w0.heap.size w0 w' ∧ KeepBut w w' g none := by
 have HR1 := Aside0.mk hr1
 have HC1 := Aside0.mk hc1
 clear hr1 hc1
 have HI0 := Aside0.mk hI
 have HK := Aside0.mk (KeepBut.refl w g none)
 have HL := Aside0.mk hB.size
 clear hI
 have HW0 := Aside0.mk hB.size
 have HB := Aside0.mk hB
 clear hB
 have H : ((spec_l1Below.f s0_0 s0_1 s0_2 (l1.length : Int)).bind fun bt400 => (if 0 ≤ bt400.1 then (if bt400.1 < (l1.length : Int) then (some (rdOf ByteArray.empty l1 bt400.1, bt400.2.1, bt400.2.2)) else (none)) else (none))) = some (r1, r2, r3) := h
 clear h
 replace H := Option.bind_eq_some_iff.mp H
 obtain ⟨⟨t400, t401, t402⟩, A30, H⟩ := H
 replace H : (if 0 ≤ t400 then (if t400 < (l1.length : Int) then (some (rdOf ByteArray.empty l1 t400, t401, t402)) else (none)) else (none)) = some (r1, r2, r3) := H
 have A3 := Aside0.mk A30
 clear A30
 by_cases c4 : 0 ≤ t400
 ·rw [if_pos c4] at H
  have c4b0 : decide (0 ≤ t400) = true := decide_eq_true c4
  clear c4
  by_cases c5 : t400 < (l1.length : Int)
  ·rw [if_pos c5] at H
   have c5b0 : decide (t400 < (l1.length : Int)) = true := decide_eq_true c5
   clear c5
   simp only [Option.some.injEq, Prod.mk.injEq] at H
   obtain ⟨rfl, rfl, rfl⟩ := H
   go_enter Try.func119, Try.ntmps119
   go_wp2_with (first | ((with_reducible refine gate_callee (f := 60) rfl ?_); refine goesM_ (some 9) rfl rfl Try.func60 #[.pointer (some ⟨g, 0, none⟩), .int .i64 (l1.length : Int)] ?_; (with_reducible refine (spec_l1Below.calls g s0_0 s0_1 s0_2 (l1.length : Int) t400 t401 t402 w0 _ ?side1 ?side2 A3.out).mono ?_); (case side1 => exact si HI0.out); (case side2 => exact bi HB.out); rintro e w6 ⟨rfl, hi, hb, hk⟩; refine ⟨_, rfl, ?_⟩; replace HK := Aside0.mk (KeepBut.trans (kp HK.out) hk (.inl rfl)); replace HB := Aside0.mk (hb); replace HI0 := Aside0.mk (hi); (try clear hb); (try clear hb2); (try clear hk); (try clear hi); have p403 : 0 ≤ (t400 : Int) := dt; have q403 : t400 < (l1.length : Int) := dt; obtain ⟨ad403, e403, hx403_0⟩ := Kd.at_string HR1.out t400 p403 q403; cases e403; replace hx403_0 := keep_cell HK.out hx403_0 (by first | (rw [add_block]; exact hf1 _ rfl (by omega)) | exact hf1 _ rfl (by omega) | exact hf1 ad403 rfl (by omega)); replace p403 := eq_true p403; replace q403 := eq_true q403))
   go_ret
   exact ⟨rt, si HI0.out, bi HB.out, kp HK.out⟩
  ·rw [if_neg c5] at H
   exact absurd H (by simp)
 ·rw [if_neg c4] at H
  exact absurd H (by simp)

/-! ### spec_l2Main: function 107 -/
def spec_l2Main.f (s0_0 : List Int) (s0_1 : Int) (s0_2 : Int) : Option (ByteArray × Int × Int) := (spec_l1Pick.f s0_0 s0_1 s0_2 (([(⟨#[108, 100, 105, 32, 53, 10, 115, 116, 97, 32, 56, 49, 57, 51, 10, 108, 100, 105, 32, 49, 50, 56, 10, 115, 116, 97, 32, 56, 49, 57, 50, 10, 108, 100, 97, 32, 56, 49, 57, 52, 10, 115, 116, 97, 32, 49, 54, 10, 106, 109, 112, 32, 52, 57, 49, 54, 50, 10]⟩ : ByteArray), (⟨#[108, 100, 105, 32, 51, 10, 115, 116, 97, 32, 49, 54, 51, 56, 52, 10, 108, 100, 105, 32, 50, 10, 115, 116, 97, 32, 49, 54, 51, 56, 53, 10, 108, 100, 105, 32, 49, 10, 115, 116, 97, 32, 49, 54, 51, 56, 54, 10, 99, 108, 105, 10, 108, 100, 97, 32, 49, 54, 51, 56, 54, 10, 106, 109, 112, 32, 52, 57, 49, 54, 56, 10]⟩ : ByteArray), (⟨#[108, 100, 105, 32, 50, 10, 115, 116, 97, 32, 56, 49, 57, 53, 10, 105, 110, 120, 10, 116, 120, 97, 10, 115, 116, 97, 32, 56, 49, 57, 54, 10, 115, 116, 97, 32, 56, 49, 57, 55, 10, 108, 100, 97, 32, 56, 49, 57, 54, 10, 115, 116, 97, 32, 48, 10, 106, 109, 112, 32, 52, 57, 49, 53, 55, 10]⟩ : ByteArray), (⟨#[108, 100, 105, 32, 49, 10, 115, 116, 97, 32, 49, 54, 52, 48, 54, 10, 108, 100, 105, 32, 48, 10, 115, 116, 97, 32, 49, 54, 52, 48, 54, 10, 108, 100, 97, 32, 49, 54, 52, 48, 54, 10, 112, 104, 97, 10, 108, 100, 97, 32, 49, 54, 52, 48, 54, 10, 112, 108, 97, 10, 106, 109, 112, 32, 52, 57, 49, 54, 50, 10]⟩ : ByteArray), (⟨#[105, 110, 120, 10, 116, 120, 97, 10, 115, 116, 97, 32, 51, 50, 55, 54, 56, 10, 108, 100, 97, 32, 51, 50, 55, 55, 48, 10, 115, 116, 97, 32, 56, 49, 57, 51, 10, 106, 109, 112, 32, 52, 57, 49, 53, 50, 10]⟩ : ByteArray), (⟨#[108, 100, 105, 32, 49, 50, 56, 10, 115, 116, 97, 32, 56, 49, 57, 50, 10, 108, 100, 105, 32, 55, 10, 115, 116, 97, 32, 49, 54, 51, 56, 53, 10, 108, 100, 105, 32, 49, 10, 115, 116, 97, 32, 49, 54, 51, 56, 54, 10, 99, 108, 105, 10, 106, 115, 114, 32, 52, 57, 51, 48, 48, 10, 106, 109, 112, 32, 52, 57, 49, 54, 56, 10]⟩ : ByteArray), (⟨#[108, 100, 105, 32, 57, 10, 115, 101, 99, 10, 115, 98, 105, 32, 49, 10, 98, 110, 101, 32, 52, 57, 49, 53, 52, 10, 115, 116, 97, 32, 56, 49, 57, 51, 10, 106, 109, 112, 32, 52, 57, 49, 53, 50, 10]⟩ : ByteArray)] : List ByteArray))).bind fun bt407 => (if bt407.1.size + 125 ≤ 9223372036854775807 then (some (bt407.1 ++ (⟨#[97, 116, 32, 49, 52, 56, 10, 105, 110, 120, 10, 116, 120, 97, 10, 115, 116, 97, 32, 56, 49, 57, 55, 10, 114, 116, 115, 10, 97, 116, 32, 49, 50, 56, 10, 112, 104, 97, 10, 108, 100, 97, 32, 56, 49, 57, 52, 10, 97, 100, 105, 32, 49, 10, 115, 116, 97, 32, 56, 49, 57, 51, 10, 112, 108, 97, 10, 114, 116, 105, 10, 97, 116, 32, 49, 54, 48, 10, 115, 116, 97, 32, 49, 54, 51, 56, 55, 10, 108, 100, 97, 32, 49, 54, 51, 56, 54, 10, 115, 116, 97, 32, 49, 55, 10, 108, 100, 105, 32, 50, 10, 115, 116, 97, 32, 49, 54, 51, 56, 53, 10, 114, 116, 105, 10]⟩ : ByteArray), bt407.2.1, bt407.2.2)) else (none))
set_option maxHeartbeats 8000000 in
set_option maxRecDepth 100000 in
theorem spec_l2Main.calls (g : Nat) (s0_0 : List Int) (s0_1 : Int) (s0_2 : Int) (r1 : ByteArray) (r2 : Int) (r3 : Int) (w0 w : World) (hI : IsS107 w0 w g s0_0 s0_1 s0_2) (hB : Below w0.heap.size w0 w) (h : spec_l2Main.f s0_0 s0_1 s0_2 = some (r1, r2, r3)) :
  Calls Try.prog 107 #[.pointer (some ⟨g, 0, none⟩)] w fun e w' => e = .returned (.string r1) ∧ IsS107 w0 w' g s0_0 r2 r3 ∧ Below w0.heap.size w0 w' ∧ KeepBut w w' g none := by
 have HI0 := Aside0.mk hI
 have HK := Aside0.mk (KeepBut.refl w g none)
 have HL := Aside0.mk hB.size
 clear hI
 have HW0 := Aside0.mk hB.size
 have HB := Aside0.mk hB
 clear hB
 have H : ((spec_l1Pick.f s0_0 s0_1 s0_2 (([(⟨#[108, 100, 105, 32, 53, 10, 115, 116, 97, 32, 56, 49, 57, 51, 10, 108, 100, 105, 32, 49, 50, 56, 10, 115, 116, 97, 32, 56, 49, 57, 50, 10, 108, 100, 97, 32, 56, 49, 57, 52, 10, 115, 116, 97, 32, 49, 54, 10, 106, 109, 112, 32, 52, 57, 49, 54, 50, 10]⟩ : ByteArray), (⟨#[108, 100, 105, 32, 51, 10, 115, 116, 97, 32, 49, 54, 51, 56, 52, 10, 108, 100, 105, 32, 50, 10, 115, 116, 97, 32, 49, 54, 51, 56, 53, 10, 108, 100, 105, 32, 49, 10, 115, 116, 97, 32, 49, 54, 51, 56, 54, 10, 99, 108, 105, 10, 108, 100, 97, 32, 49, 54, 51, 56, 54, 10, 106, 109, 112, 32, 52, 57, 49, 54, 56, 10]⟩ : ByteArray), (⟨#[108, 100, 105, 32, 50, 10, 115, 116, 97, 32, 56, 49, 57, 53, 10, 105, 110, 120, 10, 116, 120, 97, 10, 115, 116, 97, 32, 56, 49, 57, 54, 10, 115, 116, 97, 32, 56, 49, 57, 55, 10, 108, 100, 97, 32, 56, 49, 57, 54, 10, 115, 116, 97, 32, 48, 10, 106, 109, 112, 32, 52, 57, 49, 53, 55, 10]⟩ : ByteArray), (⟨#[108, 100, 105, 32, 49, 10, 115, 116, 97, 32, 49, 54, 52, 48, 54, 10, 108, 100, 105, 32, 48, 10, 115, 116, 97, 32, 49, 54, 52, 48, 54, 10, 108, 100, 97, 32, 49, 54, 52, 48, 54, 10, 112, 104, 97, 10, 108, 100, 97, 32, 49, 54, 52, 48, 54, 10, 112, 108, 97, 10, 106, 109, 112, 32, 52, 57, 49, 54, 50, 10]⟩ : ByteArray), (⟨#[105, 110, 120, 10, 116, 120, 97, 10, 115, 116, 97, 32, 51, 50, 55, 54, 56, 10, 108, 100, 97, 32, 51, 50, 55, 55, 48, 10, 115, 116, 97, 32, 56, 49, 57, 51, 10, 106, 109, 112, 32, 52, 57, 49, 53, 50, 10]⟩ : ByteArray), (⟨#[108, 100, 105, 32, 49, 50, 56, 10, 115, 116, 97, 32, 56, 49, 57, 50, 10, 108, 100, 105, 32, 55, 10, 115, 116, 97, 32, 49, 54, 51, 56, 53, 10, 108, 100, 105, 32, 49, 10, 115, 116, 97, 32, 49, 54, 51, 56, 54, 10, 99, 108, 105, 10, 106, 115, 114, 32, 52, 57, 51, 48, 48, 10, 106, 109, 112, 32, 52, 57, 49, 54, 56, 10]⟩ : ByteArray), (⟨#[108, 100, 105, 32, 57, 10, 115, 101, 99, 10, 115, 98, 105, 32, 49, 10, 98, 110, 101, 32, 52, 57, 49, 53, 52, 10, 115, 116, 97, 32, 56, 49, 57, 51, 10, 106, 109, 112, 32, 52, 57, 49, 53, 50, 10]⟩ : ByteArray)] : List ByteArray))).bind fun bt407 => (if bt407.1.size + 125 ≤ 9223372036854775807 then (some (bt407.1 ++ (⟨#[97, 116, 32, 49, 52, 56, 10, 105, 110, 120, 10, 116, 120, 97, 10, 115, 116, 97, 32, 56, 49, 57, 55, 10, 114, 116, 115, 10, 97, 116, 32, 49, 50, 56, 10, 112, 104, 97, 10, 108, 100, 97, 32, 56, 49, 57, 52, 10, 97, 100, 105, 32, 49, 10, 115, 116, 97, 32, 56, 49, 57, 51, 10, 112, 108, 97, 10, 114, 116, 105, 10, 97, 116, 32, 49, 54, 48, 10, 115, 116, 97, 32, 49, 54, 51, 56, 55, 10, 108, 100, 97, 32, 49, 54, 51, 56, 54, 10, 115, 116, 97, 32, 49, 55, 10, 108, 100, 105, 32, 50, 10, 115, 116, 97, 32, 49, 54, 51, 56, 53, 10, 114, 116, 105, 10]⟩ : ByteArray), bt407.2.1, bt407.2.2)) else (none))) = some (r1, r2, r3) := h
 clear h
 obtain ⟨y404, hy404⟩ : ∃ y_ : List ByteArray, y_ = (([(⟨#[108, 100, 105, 32, 53, 10, 115, 116, 97, 32, 56, 49, 57, 51, 10, 108, 100, 105, 32, 49, 50, 56, 10, 115, 116, 97, 32, 56, 49, 57, 50, 10, 108, 100, 97, 32, 56, 49, 57, 52, 10, 115, 116, 97, 32, 49, 54, 10, 106, 109, 112, 32, 52, 57, 49, 54, 50, 10]⟩ : ByteArray), (⟨#[108, 100, 105, 32, 51, 10, 115, 116, 97, 32, 49, 54, 51, 56, 52, 10, 108, 100, 105, 32, 50, 10, 115, 116, 97, 32, 49, 54, 51, 56, 53, 10, 108, 100, 105, 32, 49, 10, 115, 116, 97, 32, 49, 54, 51, 56, 54, 10, 99, 108, 105, 10, 108, 100, 97, 32, 49, 54, 51, 56, 54, 10, 106, 109, 112, 32, 52, 57, 49, 54, 56, 10]⟩ : ByteArray), (⟨#[108, 100, 105, 32, 50, 10, 115, 116, 97, 32, 56, 49, 57, 53, 10, 105, 110, 120, 10, 116, 120, 97, 10, 115, 116, 97, 32, 56, 49, 57, 54, 10, 115, 116, 97, 32, 56, 49, 57, 55, 10, 108, 100, 97, 32, 56, 49, 57, 54, 10, 115, 116, 97, 32, 48, 10, 106, 109, 112, 32, 52, 57, 49, 53, 55, 10]⟩ : ByteArray), (⟨#[108, 100, 105, 32, 49, 10, 115, 116, 97, 32, 49, 54, 52, 48, 54, 10, 108, 100, 105, 32, 48, 10, 115, 116, 97, 32, 49, 54, 52, 48, 54, 10, 108, 100, 97, 32, 49, 54, 52, 48, 54, 10, 112, 104, 97, 10, 108, 100, 97, 32, 49, 54, 52, 48, 54, 10, 112, 108, 97, 10, 106, 109, 112, 32, 52, 57, 49, 54, 50, 10]⟩ : ByteArray), (⟨#[105, 110, 120, 10, 116, 120, 97, 10, 115, 116, 97, 32, 51, 50, 55, 54, 56, 10, 108, 100, 97, 32, 51, 50, 55, 55, 48, 10, 115, 116, 97, 32, 56, 49, 57, 51, 10, 106, 109, 112, 32, 52, 57, 49, 53, 50, 10]⟩ : ByteArray), (⟨#[108, 100, 105, 32, 49, 50, 56, 10, 115, 116, 97, 32, 56, 49, 57, 50, 10, 108, 100, 105, 32, 55, 10, 115, 116, 97, 32, 49, 54, 51, 56, 53, 10, 108, 100, 105, 32, 49, 10, 115, 116, 97, 32, 49, 54, 51, 56, 54, 10, 99, 108, 105, 10, 106, 115, 114, 32, 52, 57, 51, 48, 48, 10, 106, 109, 112, 32, 52, 57, 49, 54, 56, 10]⟩ : ByteArray), (⟨#[108, 100, 105, 32, 57, 10, 115, 101, 99, 10, 115, 98, 105, 32, 49, 10, 98, 110, 101, 32, 52, 57, 49, 53, 52, 10, 115, 116, 97, 32, 56, 49, 57, 51, 10, 106, 109, 112, 32, 52, 57, 49, 53, 50, 10]⟩ : ByteArray)] : List ByteArray)) := ⟨_, rfl⟩
 replace H : ((spec_l1Pick.f s0_0 s0_1 s0_2 y404).bind fun bt407 => (if bt407.1.size + 125 ≤ 9223372036854775807 then (some (bt407.1 ++ (⟨#[97, 116, 32, 49, 52, 56, 10, 105, 110, 120, 10, 116, 120, 97, 10, 115, 116, 97, 32, 56, 49, 57, 55, 10, 114, 116, 115, 10, 97, 116, 32, 49, 50, 56, 10, 112, 104, 97, 10, 108, 100, 97, 32, 56, 49, 57, 52, 10, 97, 100, 105, 32, 49, 10, 115, 116, 97, 32, 56, 49, 57, 51, 10, 112, 108, 97, 10, 114, 116, 105, 10, 97, 116, 32, 49, 54, 48, 10, 115, 116, 97, 32, 49, 54, 51, 56, 55, 10, 108, 100, 97, 32, 49, 54, 51, 56, 54, 10, 115, 116, 97, 32, 49, 55, 10, 108, 100, 105, 32, 50, 10, 115, 116, 97, 32, 49, 54, 51, 56, 53, 10, 114, 116, 105, 10]⟩ : ByteArray), bt407.2.1, bt407.2.2)) else (none))) = some (r1, r2, r3) := by first | (rw [hy404]; with_reducible exact H) | (have H2_ := (Option.bind_some _ _).symm.trans H; rw [hy404]; with_reducible exact H2_) | (have H2_ := (Option.bind_some _ _).symm.trans H; with_reducible exact H2_) | with_reducible exact H | (rw [hy404]; exact H) | exact H
 have Ny404 := Aside0.mk hy404
 clear hy404
 replace H := Option.bind_eq_some_iff.mp H
 obtain ⟨⟨t407, t408, t409⟩, A20, H⟩ := H
 replace H : (if t407.size + 125 ≤ 9223372036854775807 then (some (t407 ++ (⟨#[97, 116, 32, 49, 52, 56, 10, 105, 110, 120, 10, 116, 120, 97, 10, 115, 116, 97, 32, 56, 49, 57, 55, 10, 114, 116, 115, 10, 97, 116, 32, 49, 50, 56, 10, 112, 104, 97, 10, 108, 100, 97, 32, 56, 49, 57, 52, 10, 97, 100, 105, 32, 49, 10, 115, 116, 97, 32, 56, 49, 57, 51, 10, 112, 108, 97, 10, 114, 116, 105, 10, 97, 116, 32, 49, 54, 48, 10, 115, 116, 97, 32, 49, 54, 51, 56, 55, 10, 108, 100, 97, 32, 49, 54, 51, 56, 54, 10, 115, 116, 97, 32, 49, 55, 10, 108, 100, 105, 32, 50, 10, 115, 116, 97, 32, 49, 54, 51, 56, 53, 10, 114, 116, 105, 10]⟩ : ByteArray), t408, t409)) else (none)) = some (r1, r2, r3) := H
 have A2 := Aside0.mk A20
 clear A20
 by_cases c3 : t407.size + 125 ≤ 9223372036854775807
 ·rw [if_pos c3] at H
  have c3b0 := eq_true c3
  have c3b1 : decide (t407.size + 125 ≤ 9223372036854775807) = true := decide_eq_true c3
  try have c3b2 : (9223372036854775807 < t407.size + 125) = False := eq_false (Nat.not_lt.2 c3)
  simp only [Option.some.injEq, Prod.mk.injEq] at H
  obtain ⟨rfl, rfl, rfl⟩ := H
  go_enter Try.func107, Try.ntmps107
  go_wp2_with (first | ((with_reducible refine gate_dst (N := 5) rfl ?_); refine Kd.R_lit Kd.string _ 9 ?hg (N := 5) ?hd (xs := ([(⟨#[108, 100, 105, 32, 53, 10, 115, 116, 97, 32, 56, 49, 57, 51, 10, 108, 100, 105, 32, 49, 50, 56, 10, 115, 116, 97, 32, 56, 49, 57, 50, 10, 108, 100, 97, 32, 56, 49, 57, 52, 10, 115, 116, 97, 32, 49, 54, 10, 106, 109, 112, 32, 52, 57, 49, 54, 50, 10]⟩ : ByteArray), (⟨#[108, 100, 105, 32, 51, 10, 115, 116, 97, 32, 49, 54, 51, 56, 52, 10, 108, 100, 105, 32, 50, 10, 115, 116, 97, 32, 49, 54, 51, 56, 53, 10, 108, 100, 105, 32, 49, 10, 115, 116, 97, 32, 49, 54, 51, 56, 54, 10, 99, 108, 105, 10, 108, 100, 97, 32, 49, 54, 51, 56, 54, 10, 106, 109, 112, 32, 52, 57, 49, 54, 56, 10]⟩ : ByteArray), (⟨#[108, 100, 105, 32, 50, 10, 115, 116, 97, 32, 56, 49, 57, 53, 10, 105, 110, 120, 10, 116, 120, 97, 10, 115, 116, 97, 32, 56, 49, 57, 54, 10, 115, 116, 97, 32, 56, 49, 57, 55, 10, 108, 100, 97, 32, 56, 49, 57, 54, 10, 115, 116, 97, 32, 48, 10, 106, 109, 112, 32, 52, 57, 49, 53, 55, 10]⟩ : ByteArray), (⟨#[108, 100, 105, 32, 49, 10, 115, 116, 97, 32, 49, 54, 52, 48, 54, 10, 108, 100, 105, 32, 48, 10, 115, 116, 97, 32, 49, 54, 52, 48, 54, 10, 108, 100, 97, 32, 49, 54, 52, 48, 54, 10, 112, 104, 97, 10, 108, 100, 97, 32, 49, 54, 52, 48, 54, 10, 112, 108, 97, 10, 106, 109, 112, 32, 52, 57, 49, 54, 50, 10]⟩ : ByteArray), (⟨#[105, 110, 120, 10, 116, 120, 97, 10, 115, 116, 97, 32, 51, 50, 55, 54, 56, 10, 108, 100, 97, 32, 51, 50, 55, 55, 48, 10, 115, 116, 97, 32, 56, 49, 57, 51, 10, 106, 109, 112, 32, 52, 57, 49, 53, 50, 10]⟩ : ByteArray), (⟨#[108, 100, 105, 32, 49, 50, 56, 10, 115, 116, 97, 32, 56, 49, 57, 50, 10, 108, 100, 105, 32, 55, 10, 115, 116, 97, 32, 49, 54, 51, 56, 53, 10, 108, 100, 105, 32, 49, 10, 115, 116, 97, 32, 49, 54, 51, 56, 54, 10, 99, 108, 105, 10, 106, 115, 114, 32, 52, 57, 51, 48, 48, 10, 106, 109, 112, 32, 52, 57, 49, 54, 56, 10]⟩ : ByteArray), (⟨#[108, 100, 105, 32, 57, 10, 115, 101, 99, 10, 115, 98, 105, 32, 49, 10, 98, 110, 101, 32, 52, 57, 49, 53, 52, 10, 115, 116, 97, 32, 56, 49, 57, 51, 10, 106, 109, 112, 32, 52, 57, 49, 53, 50, 10]⟩ : ByteArray)] : List ByteArray)) (inner := [.string (⟨#[108, 100, 105, 32, 53, 10, 115, 116, 97, 32, 56, 49, 57, 51, 10, 108, 100, 105, 32, 49, 50, 56, 10, 115, 116, 97, 32, 56, 49, 57, 50, 10, 108, 100, 97, 32, 56, 49, 57, 52, 10, 115, 116, 97, 32, 49, 54, 10, 106, 109, 112, 32, 52, 57, 49, 54, 50, 10]⟩ : ByteArray), .string (⟨#[108, 100, 105, 32, 51, 10, 115, 116, 97, 32, 49, 54, 51, 56, 52, 10, 108, 100, 105, 32, 50, 10, 115, 116, 97, 32, 49, 54, 51, 56, 53, 10, 108, 100, 105, 32, 49, 10, 115, 116, 97, 32, 49, 54, 51, 56, 54, 10, 99, 108, 105, 10, 108, 100, 97, 32, 49, 54, 51, 56, 54, 10, 106, 109, 112, 32, 52, 57, 49, 54, 56, 10]⟩ : ByteArray), .string (⟨#[108, 100, 105, 32, 50, 10, 115, 116, 97, 32, 56, 49, 57, 53, 10, 105, 110, 120, 10, 116, 120, 97, 10, 115, 116, 97, 32, 56, 49, 57, 54, 10, 115, 116, 97, 32, 56, 49, 57, 55, 10, 108, 100, 97, 32, 56, 49, 57, 54, 10, 115, 116, 97, 32, 48, 10, 106, 109, 112, 32, 52, 57, 49, 53, 55, 10]⟩ : ByteArray), .string (⟨#[108, 100, 105, 32, 49, 10, 115, 116, 97, 32, 49, 54, 52, 48, 54, 10, 108, 100, 105, 32, 48, 10, 115, 116, 97, 32, 49, 54, 52, 48, 54, 10, 108, 100, 97, 32, 49, 54, 52, 48, 54, 10, 112, 104, 97, 10, 108, 100, 97, 32, 49, 54, 52, 48, 54, 10, 112, 108, 97, 10, 106, 109, 112, 32, 52, 57, 49, 54, 50, 10]⟩ : ByteArray), .string (⟨#[105, 110, 120, 10, 116, 120, 97, 10, 115, 116, 97, 32, 51, 50, 55, 54, 56, 10, 108, 100, 97, 32, 51, 50, 55, 55, 48, 10, 115, 116, 97, 32, 56, 49, 57, 51, 10, 106, 109, 112, 32, 52, 57, 49, 53, 50, 10]⟩ : ByteArray), .string (⟨#[108, 100, 105, 32, 49, 50, 56, 10, 115, 116, 97, 32, 56, 49, 57, 50, 10, 108, 100, 105, 32, 55, 10, 115, 116, 97, 32, 49, 54, 51, 56, 53, 10, 108, 100, 105, 32, 49, 10, 115, 116, 97, 32, 49, 54, 51, 56, 54, 10, 99, 108, 105, 10, 106, 115, 114, 32, 52, 57, 51, 48, 48, 10, 106, 109, 112, 32, 52, 57, 49, 54, 56, 10]⟩ : ByteArray), .string (⟨#[108, 100, 105, 32, 57, 10, 115, 101, 99, 10, 115, 98, 105, 32, 49, 10, 98, 110, 101, 32, 52, 57, 49, 53, 52, 10, 115, 116, 97, 32, 56, 49, 57, 51, 10, 106, 109, 112, 32, 52, 57, 49, 53, 50, 10]⟩ : ByteArray)]) (ok := fun _ => True) (okp := fun _ => True) ?hr ?hp (fun _ hk => hk) trivial (Below.refl _ _) (Nat.le_refl _) (by simp) ?_; (case hd => rfl); (case hg => rfl); (case hr => first | (go_simp; done) | (go_simp; rfl)); (case hp => exact (reS _)); intro v405 w4 ho5 hb hg_ hnew_; clear hg_ hnew_; (first | rw [← Ny404.out] at ho5 | (simp only [Int.reduceToNat] at ho5; rw [← Ny404.out] at ho5)); have HO406 := Aside0.mk (Kd.R_lower ho5 (keep_size (w := w) (g := g) (row := none) (kp HK.out))); replace HI0 := Aside0.mk (IsS107.below (si HI0.out) hb); replace HK := Aside0.mk (KeepBut.trans (kp HK.out) (KeepBut.of_below hb g none) (.inl rfl)); replace HB := Aside0.mk (below_step (bi HB.out) hb); clear hb ho5; obtain ⟨Ao6, co6, eo6⟩ := Kd.R_slice HO406.out; subst eo6) | ((with_reducible refine gate_callee (f := 119) rfl ?_); refine goesM_ (some 6) rfl rfl Try.func119 #[.pointer (some ⟨g, 0, none⟩), .slice Ao6 y404.length co6] ?_; (with_reducible refine (spec_l1Pick.calls g s0_0 s0_1 s0_2 _ _ y404 t407 t408 t409 w0 _ ?side1 ?side2 ?side3 ?side4 ?side5 A2.out).mono ?_); (case side1 => exact si HI0.out); (case side2 => exact bi HB.out); (case side3 => exact kc (Kd.R_reads' HO406.out).2.2); (case side4 => exact (Kd.R_reads' HO406.out).2.1); (case side5 => exact far_slice (IsS107.own_ne HI0.out HO406.out (by decide))); rintro e w7 ⟨rfl, hi, hb, hk⟩; refine ⟨_, rfl, ?_⟩; replace HO406 := Aside0.mk (Kd.R_mono (Kd.R_keep (IsS107.apart (show IsS107 w0 _ g s0_0 s0_1 s0_2 from si HI0.out) (kr HO406.out) (by decide)) hk (fun _ h => h.2)) (fun _ h => h.1)); replace HK := Aside0.mk (KeepBut.trans (kp HK.out) hk (.inl rfl)); replace HB := Aside0.mk (hb); replace HI0 := Aside0.mk (hi); (try clear hb); (try clear hb2); (try clear hk); (try clear hi)))
  go_ret
  exact ⟨rt, si HI0.out, bi HB.out, kp HK.out⟩
 ·rw [if_neg c3] at H
  exact absurd H (by simp)

end Go.Proofs.Ytmkccgbfgebfbaa.MFnEntered
