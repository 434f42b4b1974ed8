/- Walks of functions that the law FnEntered reaches: each comes to just what its Lean function says. (Begun as the texts that print.sh wrote for this claim; some of them, and those that it does not write, are mine.) No condition. -/
import Derived.Test.YtmkccgbfgebfbaaMFnEnteredx6
namespace Go.Proofs.Ytmkccgbfgebfbaa.MFnEntered
open Go.RowKit Go.Proofs.YtmkccgbfgebfbaaW.PrintWords Go.Proofs.YtmkccgbfgebfbaaW.PrintLast Go.Proofs.YtmkccgbfgebfbaaW.PrintMore
attribute [local go_sem] max2_int min2_int max_two min_two max_three min_three max_four min_four   -- for this text's walks alone
set_option linter.unusedVariables false
set_option linter.unusedSimpArgs false

/-! ### laws_FnEntered: function 8 -/
mutual
def laws_FnEntered.j0 : Nat → Bool → List (List Int) → List Int → Int → Int → Int → Int → Int → Bool → Bool → Bool → Bool → List Int → Int → Int → Int → Int → Int → Bool → Bool → Bool → Bool → Option (Bool)
 | 0, _, _, _, _, _, _, _, _, _, _, _, _, _, _, _, _, _, _, _, _, _, _ => none
 | k + 1, x48, x795000, x796000, x796001, x797000, x797001, x797002, x797003, x797004, x797005, x797006, x797007, x810000, x810001, x811000, x811001, x811002, x811003, x811004, x811005, x811006, x811007 => if x48 = true then (some false) else ((spec_MemOk.f k x795000 x796000 x796001).bind fun t826 => (if t826 = true then ((spec_CpuOk.f x797000 x797001 x797002 x797003 x797004 x797005 x797006 x797007).bind fun t827 => (laws_FnEntered.j1 k (!t827) x797000 x797001 x797002 x797003 x797004 x797005 x797006 x797007 x810000 x810001 x811000 x811001 x811002 x811003 x811004 x811005 x811006 x811007)) else (laws_FnEntered.j1 k true x797000 x797001 x797002 x797003 x797004 x797005 x797006 x797007 x810000 x810001 x811000 x811001 x811002 x811003 x811004 x811005 x811006 x811007)))
def laws_FnEntered.j1 : Nat → Bool → Int → Int → Int → Int → Bool → Bool → Bool → Bool → List Int → Int → Int → Int → Int → Int → Bool → Bool → Bool → Bool → Option (Bool)
 | 0, _, _, _, _, _, _, _, _, _, _, _, _, _, _, _, _, _, _, _ => none
 | k + 1, x57, x797000, x797001, x797002, x797003, x797004, x797005, x797006, x797007, x810000, x810001, x811000, x811001, x811002, x811003, x811004, x811005, x811006, x811007 => if x57 = true then (some x811007) else ((impl_OpOf.f k (⟨#[114, 116, 105]⟩ : ByteArray)).bind fun t828 => ((impl_Exec.f k x810000 x810001 x811000 x811001 x811002 x811003 x811004 x811005 x811006 x811007 t828 0 0).bind fun bt829 => (if x811007 = true then ((impl_Byte.f (wrap64 (x797002 - 3))).bind fun t843 => (if x811002 = t843 then (if bt829.2.2.2.2.2.1 = x797003 then (if bt829.2.2.2.2.1 = x797002 then ((impl_Flags.f bt829.2.2.1 bt829.2.2.2.1 bt829.2.2.2.2.1 bt829.2.2.2.2.2.1 bt829.2.2.2.2.2.2.1 bt829.2.2.2.2.2.2.2.1 bt829.2.2.2.2.2.2.2.2.1 bt829.2.2.2.2.2.2.2.2.2).bind fun t844 => ((impl_Flags.f x797000 x797001 x797002 x797003 x797004 x797005 x797006 x797007).bind fun t845 => (if t844 = t845 then (if bt829.2.2.1 = x797000 then (some (bt829.2.2.2.1 == x797001)) else (some false)) else (some false)))) else (some false)) else (some false)) else (some false))) else (some false))))
end
def laws_FnEntered.f (k : Nat) (l0 : List Int) : Option (Bool) := (laws_big.f l0).bind fun t777 => (if t777 = true then (some true) else ((spec_DrawEnter.f k l0).bind fun bt778 => ((impl_Enter.f k bt778.1 bt778.2.1 bt778.2.2.1 bt778.2.2.2.1 bt778.2.2.2.2.1 bt778.2.2.2.2.2.1 bt778.2.2.2.2.2.2.1 bt778.2.2.2.2.2.2.2.1 bt778.2.2.2.2.2.2.2.2.1 bt778.2.2.2.2.2.2.2.2.2.1 bt778.2.2.2.2.2.2.2.2.2.2.1 bt778.2.2.2.2.2.2.2.2.2.2.2).bind fun bt797 => ((spec_Enter.f k bt778.1 bt778.2.1 bt778.2.2.1 bt778.2.2.2.1 bt778.2.2.2.2.1 bt778.2.2.2.2.2.1 bt778.2.2.2.2.2.2.1 bt778.2.2.2.2.2.2.2.1 bt778.2.2.2.2.2.2.2.2.1 bt778.2.2.2.2.2.2.2.2.2.1 bt778.2.2.2.2.2.2.2.2.2.2.1 bt778.2.2.2.2.2.2.2.2.2.2.2).bind fun bt811 => (if (!(bt797.2.2.1 == bt811.2.2.1) || (!(bt797.2.2.2.1 == bt811.2.2.2.1) || (!(bt797.2.2.2.2.1 == bt811.2.2.2.2.1) || (!(bt797.2.2.2.2.2.1 == bt811.2.2.2.2.2.1) || (!(bt797.2.2.2.2.2.2.1 == bt811.2.2.2.2.2.2.1) || (!(bt797.2.2.2.2.2.2.2.1 == bt811.2.2.2.2.2.2.2.1) || (!(bt797.2.2.2.2.2.2.2.2.1 == bt811.2.2.2.2.2.2.2.2.1) || (!(bt797.2.2.2.2.2.2.2.2.2 == bt811.2.2.2.2.2.2.2.2.2))))))))) = true then (laws_FnEntered.j0 k true bt778.1 bt778.2.1 bt778.2.2.1 bt778.2.2.2.1 bt778.2.2.2.2.1 bt778.2.2.2.2.2.1 bt778.2.2.2.2.2.2.1 bt778.2.2.2.2.2.2.2.1 bt778.2.2.2.2.2.2.2.2.1 bt778.2.2.2.2.2.2.2.2.2.1 bt778.2.2.2.2.2.2.2.2.2.2.1 bt797.1 bt797.2.1 bt797.2.2.1 bt797.2.2.2.1 bt797.2.2.2.2.1 bt797.2.2.2.2.2.1 bt797.2.2.2.2.2.2.1 bt797.2.2.2.2.2.2.2.1 bt797.2.2.2.2.2.2.2.2.1 bt797.2.2.2.2.2.2.2.2.2) else ((laws_sameInts.f k bt797.1 bt811.1).bind fun t825 => (laws_FnEntered.j0 k (!t825) bt778.1 bt778.2.1 bt778.2.2.1 bt778.2.2.2.1 bt778.2.2.2.2.1 bt778.2.2.2.2.2.1 bt778.2.2.2.2.2.2.1 bt778.2.2.2.2.2.2.2.1 bt778.2.2.2.2.2.2.2.2.1 bt778.2.2.2.2.2.2.2.2.2.1 bt778.2.2.2.2.2.2.2.2.2.2.1 bt797.1 bt797.2.1 bt797.2.2.1 bt797.2.2.2.1 bt797.2.2.2.2.1 bt797.2.2.2.2.2.1 bt797.2.2.2.2.2.2.1 bt797.2.2.2.2.2.2.2.1 bt797.2.2.2.2.2.2.2.2.1 bt797.2.2.2.2.2.2.2.2.2)))))))
def laws_FnEntered.T10 : Bool × List (List Nat × List Nat) := (true, [([], []), ([], []), ([], []), ([2], [2]), ([0, 1, 3, 2], [0, 1, 3]), ([4], [4]), ([5], [5]), ([5], [5]), ([], []), ([], []), ([8, 6, 4, 0, 1, 2, 3, 4, 5, 6, 8, 9], [6, 8]), ([9, 7, 10, 0, 1, 2, 3, 4, 5, 6, 7, 8, 9, 10], [7, 9])])
def laws_FnEntered.B10 : List Nat := [0, 0, 0, 4, 15, 31, 63, 63, 0, 0, 895, 2047]
theorem laws_FnEntered.tab10 : rtab .any (opsOf Try.f8 10) = laws_FnEntered.T10 := by kernel_rfl
theorem laws_FnEntered.bits10 : waitsOk laws_FnEntered.T10.2 laws_FnEntered.B10 = true := by kernel_rfl
def laws_FnEntered.T11 : Bool × List (List Nat × List Nat) := (true, [([], []), ([0], [0]), ([1], [1]), ([2], [2]), ([3, 2], [2, 3]), ([2], [2]), ([5, 2], [2, 5]), ([6, 2], [2, 6]), ([7, 2, 2], [2, 7]), ([4, 8, 2], [2, 4, 8]), ([2, 9], [2, 9]), ([10, 8], [10]), ([11], [11]), ([12, 11], [11, 12]), ([11], [11]), ([14, 11], [11, 14]), ([13, 15, 11], [11, 13, 15]), ([11, 16], [11, 16]), ([17, 11], [17]), ([18], [18]), ([19, 18], [18, 19]), ([18], [18]), ([21, 18], [18, 21]), ([20, 22, 18], [18, 20, 22]), ([18, 23], [18, 23]), ([24, 18], [24]), ([25], [25]), ([26, 25, 25], [25, 26]), ([25], [25]), ([28, 27, 25], [25, 28]), ([27, 29, 25], [25, 27, 29]), ([25, 30], [25, 30]), ([31, 29], [31]), ([32], [32]), ([33, 32], [32, 33]), ([32], [32]), ([35, 32], [32, 35]), ([34, 36, 32], [32, 34, 36]), ([32, 37], [32, 37]), ([38, 32], [38]), ([39], [39]), ([40, 39], [39, 40]), ([39], [39]), ([42, 39], [39, 42]), ([41, 43, 39], [39, 41, 43]), ([39, 44], [39, 44]), ([45, 39, 0, 1, 2, 3, 4, 5, 6, 7, 8, 9, 10, 11, 12, 13, 14, 15, 16, 17, 18, 19, 20, 21, 22, 23, 24, 25, 26, 27, 28, 29, 30, 31, 32, 33, 34, 35, 36, 37, 38, 39, 40, 41, 42, 43, 44, 45], [45])])
def laws_FnEntered.B11 : List Nat := [0, 1, 3, 7, 15, 7, 39, 103, 231, 511, 1023, 2047, 4095, 8191, 4095, 20479, 65535, 131071, 262143, 524287, 1048575, 524287, 2621439, 8388607, 16777215, 33554431, 67108863, 134217727, 67108863, 536870911, 1073741823, 2147483647, 4294967295, 8589934591, 17179869183, 8589934591, 42949672959, 137438953471, 274877906943, 549755813887, 1099511627775, 2199023255551, 1099511627775, 5497558138879, 17592186044415, 35184372088831, 70368744177663]
theorem laws_FnEntered.tab11 : rtab .any (opsOf Try.f8 11) = laws_FnEntered.T11 := by kernel_rfl
theorem laws_FnEntered.bits11 : waitsOk laws_FnEntered.T11.2 laws_FnEntered.B11 = true := by kernel_rfl
set_option maxHeartbeats 8000000 in
set_option maxRecDepth 100000 in
theorem laws_FnEntered.calls (k : Nat) (A0 : Option Addr) (c0 : Nat) (l0 : List Int) (r : Bool) (w : World) (hr0 : Kd.C (Kd.int .u8) w A0 l0.length l0) (hc0 : l0.length ≤ c0) (h : laws_FnEntered.f k l0 = some r) (hrt : r = true) :
  Calls Try.prog 8 #[.slice A0 l0.length c0] w fun e w' => e = .returned (.bool r) ∧ Below w.heap.size w w' := by
 have hu29 := Try.underlying29
 have hu32 := Try.underlying32
 have hu55 := Try.underlying55
 have hu51 := Try.underlying51
 have HR0 := Aside0.mk hr0
 have HC0 := Aside0.mk hc0
 clear hr0 hc0
 have HB := Aside0.mk (Below.refl w.heap.size w)
 have H : ((laws_big.f l0).bind fun t777 => (if t777 = true then (some true) else ((spec_DrawEnter.f k l0).bind fun bt778 => ((impl_Enter.f k bt778.1 bt778.2.1 bt778.2.2.1 bt778.2.2.2.1 bt778.2.2.2.2.1 bt778.2.2.2.2.2.1 bt778.2.2.2.2.2.2.1 bt778.2.2.2.2.2.2.2.1 bt778.2.2.2.2.2.2.2.2.1 bt778.2.2.2.2.2.2.2.2.2.1 bt778.2.2.2.2.2.2.2.2.2.2.1 bt778.2.2.2.2.2.2.2.2.2.2.2).bind fun bt797 => ((spec_Enter.f k bt778.1 bt778.2.1 bt778.2.2.1 bt778.2.2.2.1 bt778.2.2.2.2.1 bt778.2.2.2.2.2.1 bt778.2.2.2.2.2.2.1 bt778.2.2.2.2.2.2.2.1 bt778.2.2.2.2.2.2.2.2.1 bt778.2.2.2.2.2.2.2.2.2.1 bt778.2.2.2.2.2.2.2.2.2.2.1 bt778.2.2.2.2.2.2.2.2.2.2.2).bind fun bt811 => (if (!(bt797.2.2.1 == bt811.2.2.1) || (!(bt797.2.2.2.1 == bt811.2.2.2.1) || (!(bt797.2.2.2.2.1 == bt811.2.2.2.2.1) || (!(bt797.2.2.2.2.2.1 == bt811.2.2.2.2.2.1) || (!(bt797.2.2.2.2.2.2.1 == bt811.2.2.2.2.2.2.1) || (!(bt797.2.2.2.2.2.2.2.1 == bt811.2.2.2.2.2.2.2.1) || (!(bt797.2.2.2.2.2.2.2.2.1 == bt811.2.2.2.2.2.2.2.2.1) || (!(bt797.2.2.2.2.2.2.2.2.2 == bt811.2.2.2.2.2.2.2.2.2))))))))) = true then (laws_FnEntered.j0 k true bt778.1 bt778.2.1 bt778.2.2.1 bt778.2.2.2.1 bt778.2.2.2.2.1 bt778.2.2.2.2.2.1 bt778.2.2.2.2.2.2.1 bt778.2.2.2.2.2.2.2.1 bt778.2.2.2.2.2.2.2.2.1 bt778.2.2.2.2.2.2.2.2.2.1 bt778.2.2.2.2.2.2.2.2.2.2.1 bt797.1 bt797.2.1 bt797.2.2.1 bt797.2.2.2.1 bt797.2.2.2.2.1 bt797.2.2.2.2.2.1 bt797.2.2.2.2.2.2.1 bt797.2.2.2.2.2.2.2.1 bt797.2.2.2.2.2.2.2.2.1 bt797.2.2.2.2.2.2.2.2.2) else ((laws_sameInts.f k bt797.1 bt811.1).bind fun t825 => (laws_FnEntered.j0 k (!t825) bt778.1 bt778.2.1 bt778.2.2.1 bt778.2.2.2.1 bt778.2.2.2.2.1 bt778.2.2.2.2.2.1 bt778.2.2.2.2.2.2.1 bt778.2.2.2.2.2.2.2.1 bt778.2.2.2.2.2.2.2.2.1 bt778.2.2.2.2.2.2.2.2.2.1 bt778.2.2.2.2.2.2.2.2.2.2.1 bt797.1 bt797.2.1 bt797.2.2.1 bt797.2.2.2.1 bt797.2.2.2.2.1 bt797.2.2.2.2.2.1 bt797.2.2.2.2.2.2.1 bt797.2.2.2.2.2.2.2.1 bt797.2.2.2.2.2.2.2.2.1 bt797.2.2.2.2.2.2.2.2.2)))))))) = some r := h
 clear h
 replace H := Option.bind_eq_some_iff.mp H
 obtain ⟨t777, A20, H⟩ := H
 replace H : (if t777 = true then (some true) else ((spec_DrawEnter.f k l0).bind fun bt778 => ((impl_Enter.f k bt778.1 bt778.2.1 bt778.2.2.1 bt778.2.2.2.1 bt778.2.2.2.2.1 bt778.2.2.2.2.2.1 bt778.2.2.2.2.2.2.1 bt778.2.2.2.2.2.2.2.1 bt778.2.2.2.2.2.2.2.2.1 bt778.2.2.2.2.2.2.2.2.2.1 bt778.2.2.2.2.2.2.2.2.2.2.1 bt778.2.2.2.2.2.2.2.2.2.2.2).bind fun bt797 => ((spec_Enter.f k bt778.1 bt778.2.1 bt778.2.2.1 bt778.2.2.2.1 bt778.2.2.2.2.1 bt778.2.2.2.2.2.1 bt778.2.2.2.2.2.2.1 bt778.2.2.2.2.2.2.2.1 bt778.2.2.2.2.2.2.2.2.1 bt778.2.2.2.2.2.2.2.2.2.1 bt778.2.2.2.2.2.2.2.2.2.2.1 bt778.2.2.2.2.2.2.2.2.2.2.2).bind fun bt811 => (if (!(bt797.2.2.1 == bt811.2.2.1) || (!(bt797.2.2.2.1 == bt811.2.2.2.1) || (!(bt797.2.2.2.2.1 == bt811.2.2.2.2.1) || (!(bt797.2.2.2.2.2.1 == bt811.2.2.2.2.2.1) || (!(bt797.2.2.2.2.2.2.1 == bt811.2.2.2.2.2.2.1) || (!(bt797.2.2.2.2.2.2.2.1 == bt811.2.2.2.2.2.2.2.1) || (!(bt797.2.2.2.2.2.2.2.2.1 == bt811.2.2.2.2.2.2.2.2.1) || (!(bt797.2.2.2.2.2.2.2.2.2 == bt811.2.2.2.2.2.2.2.2.2))))))))) = true then (laws_FnEntered.j0 k true bt778.1 bt778.2.1 bt778.2.2.1 bt778.2.2.2.1 bt778.2.2.2.2.1 bt778.2.2.2.2.2.1 bt778.2.2.2.2.2.2.1 bt778.2.2.2.2.2.2.2.1 bt778.2.2.2.2.2.2.2.2.1 bt778.2.2.2.2.2.2.2.2.2.1 bt778.2.2.2.2.2.2.2.2.2.2.1 bt797.1 bt797.2.1 bt797.2.2.1 bt797.2.2.2.1 bt797.2.2.2.2.1 bt797.2.2.2.2.2.1 bt797.2.2.2.2.2.2.1 bt797.2.2.2.2.2.2.2.1 bt797.2.2.2.2.2.2.2.2.1 bt797.2.2.2.2.2.2.2.2.2) else ((laws_sameInts.f k bt797.1 bt811.1).bind fun t825 => (laws_FnEntered.j0 k (!t825) bt778.1 bt778.2.1 bt778.2.2.1 bt778.2.2.2.1 bt778.2.2.2.2.1 bt778.2.2.2.2.2.1 bt778.2.2.2.2.2.2.1 bt778.2.2.2.2.2.2.2.1 bt778.2.2.2.2.2.2.2.2.1 bt778.2.2.2.2.2.2.2.2.2.1 bt778.2.2.2.2.2.2.2.2.2.2.1 bt797.1 bt797.2.1 bt797.2.2.1 bt797.2.2.2.1 bt797.2.2.2.2.1 bt797.2.2.2.2.2.1 bt797.2.2.2.2.2.2.1 bt797.2.2.2.2.2.2.2.1 bt797.2.2.2.2.2.2.2.2.1 bt797.2.2.2.2.2.2.2.2.2))))))) = some r := H
 have A2 := Aside0.mk A20
 clear A20
 by_cases c3 : t777 = true
 ·subst c3
  have H1 : (some true) = some r := by rw [if_pos rfl] at H; exact H
  clear H
  have H := H1
  clear H1
  obtain rfl := Option.some.inj H
  go_enter Try.func8, Try.ntmps8
  go_wp2_with (first | ((with_reducible refine gate_callee (f := 9) rfl ?_); refine goesM_ (some 14) rfl rfl Try.func9 #[.slice A0 l0.length c0] ?_; (with_reducible refine (laws_big.calls _ _ l0 true _ ?side1 ?side2 A2.out).mono ?_); (case side1 => exact kc HR0.out); (case side2 => exact HC0.out); rintro e w' ⟨rfl, ⟨nd, rfl⟩⟩; refine ⟨_, rfl, ?_⟩))
  go_ret
  exact ⟨rt, bw HB.out⟩
 ·replace c3 := Bool.eq_false_iff.mpr c3
  subst c3
  have H1 : ((spec_DrawEnter.f k l0).bind fun bt778 => ((impl_Enter.f k bt778.1 bt778.2.1 bt778.2.2.1 bt778.2.2.2.1 bt778.2.2.2.2.1 bt778.2.2.2.2.2.1 bt778.2.2.2.2.2.2.1 bt778.2.2.2.2.2.2.2.1 bt778.2.2.2.2.2.2.2.2.1 bt778.2.2.2.2.2.2.2.2.2.1 bt778.2.2.2.2.2.2.2.2.2.2.1 bt778.2.2.2.2.2.2.2.2.2.2.2).bind fun bt797 => ((spec_Enter.f k bt778.1 bt778.2.1 bt778.2.2.1 bt778.2.2.2.1 bt778.2.2.2.2.1 bt778.2.2.2.2.2.1 bt778.2.2.2.2.2.2.1 bt778.2.2.2.2.2.2.2.1 bt778.2.2.2.2.2.2.2.2.1 bt778.2.2.2.2.2.2.2.2.2.1 bt778.2.2.2.2.2.2.2.2.2.2.1 bt778.2.2.2.2.2.2.2.2.2.2.2).bind fun bt811 => (if (!(bt797.2.2.1 == bt811.2.2.1) || (!(bt797.2.2.2.1 == bt811.2.2.2.1) || (!(bt797.2.2.2.2.1 == bt811.2.2.2.2.1) || (!(bt797.2.2.2.2.2.1 == bt811.2.2.2.2.2.1) || (!(bt797.2.2.2.2.2.2.1 == bt811.2.2.2.2.2.2.1) || (!(bt797.2.2.2.2.2.2.2.1 == bt811.2.2.2.2.2.2.2.1) || (!(bt797.2.2.2.2.2.2.2.2.1 == bt811.2.2.2.2.2.2.2.2.1) || (!(bt797.2.2.2.2.2.2.2.2.2 == bt811.2.2.2.2.2.2.2.2.2))))))))) = true then (laws_FnEntered.j0 k true bt778.1 bt778.2.1 bt778.2.2.1 bt778.2.2.2.1 bt778.2.2.2.2.1 bt778.2.2.2.2.2.1 bt778.2.2.2.2.2.2.1 bt778.2.2.2.2.2.2.2.1 bt778.2.2.2.2.2.2.2.2.1 bt778.2.2.2.2.2.2.2.2.2.1 bt778.2.2.2.2.2.2.2.2.2.2.1 bt797.1 bt797.2.1 bt797.2.2.1 bt797.2.2.2.1 bt797.2.2.2.2.1 bt797.2.2.2.2.2.1 bt797.2.2.2.2.2.2.1 bt797.2.2.2.2.2.2.2.1 bt797.2.2.2.2.2.2.2.2.1 bt797.2.2.2.2.2.2.2.2.2) else ((laws_sameInts.f k bt797.1 bt811.1).bind fun t825 => (laws_FnEntered.j0 k (!t825) bt778.1 bt778.2.1 bt778.2.2.1 bt778.2.2.2.1 bt778.2.2.2.2.1 bt778.2.2.2.2.2.1 bt778.2.2.2.2.2.2.1 bt778.2.2.2.2.2.2.2.1 bt778.2.2.2.2.2.2.2.2.1 bt778.2.2.2.2.2.2.2.2.2.1 bt778.2.2.2.2.2.2.2.2.2.2.1 bt797.1 bt797.2.1 bt797.2.2.1 bt797.2.2.2.1 bt797.2.2.2.2.1 bt797.2.2.2.2.2.1 bt797.2.2.2.2.2.2.1 bt797.2.2.2.2.2.2.2.1 bt797.2.2.2.2.2.2.2.2.1 bt797.2.2.2.2.2.2.2.2.2)))))) = some r := by rw [if_neg (show ¬ (false = true) by decide)] at H; exact H
  clear H
  have H := H1
  clear H1
  replace H := Option.bind_eq_some_iff.mp H
  obtain ⟨⟨t778, t781, t784, t785, t786, t787, t788, t789, t790, t791, t792, t793⟩, A40, H⟩ := H
  replace H : ((impl_Enter.f k t778 t781 t784 t785 t786 t787 t788 t789 t790 t791 t792 t793).bind fun bt797 => ((spec_Enter.f k t778 t781 t784 t785 t786 t787 t788 t789 t790 t791 t792 t793).bind fun bt811 => (if (!(bt797.2.2.1 == bt811.2.2.1) || (!(bt797.2.2.2.1 == bt811.2.2.2.1) || (!(bt797.2.2.2.2.1 == bt811.2.2.2.2.1) || (!(bt797.2.2.2.2.2.1 == bt811.2.2.2.2.2.1) || (!(bt797.2.2.2.2.2.2.1 == bt811.2.2.2.2.2.2.1) || (!(bt797.2.2.2.2.2.2.2.1 == bt811.2.2.2.2.2.2.2.1) || (!(bt797.2.2.2.2.2.2.2.2.1 == bt811.2.2.2.2.2.2.2.2.1) || (!(bt797.2.2.2.2.2.2.2.2.2 == bt811.2.2.2.2.2.2.2.2.2))))))))) = true then (laws_FnEntered.j0 k true t778 t781 t784 t785 t786 t787 t788 t789 t790 t791 t792 bt797.1 bt797.2.1 bt797.2.2.1 bt797.2.2.2.1 bt797.2.2.2.2.1 bt797.2.2.2.2.2.1 bt797.2.2.2.2.2.2.1 bt797.2.2.2.2.2.2.2.1 bt797.2.2.2.2.2.2.2.2.1 bt797.2.2.2.2.2.2.2.2.2) else ((laws_sameInts.f k bt797.1 bt811.1).bind fun t825 => (laws_FnEntered.j0 k (!t825) t778 t781 t784 t785 t786 t787 t788 t789 t790 t791 t792 bt797.1 bt797.2.1 bt797.2.2.1 bt797.2.2.2.1 bt797.2.2.2.2.1 bt797.2.2.2.2.2.1 bt797.2.2.2.2.2.2.1 bt797.2.2.2.2.2.2.2.1 bt797.2.2.2.2.2.2.2.2.1 bt797.2.2.2.2.2.2.2.2.2))))) = some r := H
  have A4 := Aside0.mk A40
  clear A40
  replace H := Option.bind_eq_some_iff.mp H
  obtain ⟨⟨t797, t800, t801, t802, t803, t804, t805, t806, t807, t808⟩, A50, H⟩ := H
  replace H : ((spec_Enter.f k t778 t781 t784 t785 t786 t787 t788 t789 t790 t791 t792 t793).bind fun bt811 => (if (!(t801 == bt811.2.2.1) || (!(t802 == bt811.2.2.2.1) || (!(t803 == bt811.2.2.2.2.1) || (!(t804 == bt811.2.2.2.2.2.1) || (!(t805 == bt811.2.2.2.2.2.2.1) || (!(t806 == bt811.2.2.2.2.2.2.2.1) || (!(t807 == bt811.2.2.2.2.2.2.2.2.1) || (!(t808 == bt811.2.2.2.2.2.2.2.2.2))))))))) = true then (laws_FnEntered.j0 k true t778 t781 t784 t785 t786 t787 t788 t789 t790 t791 t792 t797 t800 t801 t802 t803 t804 t805 t806 t807 t808) else ((laws_sameInts.f k t797 bt811.1).bind fun t825 => (laws_FnEntered.j0 k (!t825) t778 t781 t784 t785 t786 t787 t788 t789 t790 t791 t792 t797 t800 t801 t802 t803 t804 t805 t806 t807 t808)))) = some r := H
  have A5 := Aside0.mk A50
  clear A50
  replace H := Option.bind_eq_some_iff.mp H
  obtain ⟨⟨t811, t814, t815, t816, t817, t818, t819, t820, t821, t822⟩, A60, H⟩ := H
  replace H : (if (!(t801 == t815) || (!(t802 == t816) || (!(t803 == t817) || (!(t804 == t818) || (!(t805 == t819) || (!(t806 == t820) || (!(t807 == t821) || (!(t808 == t822))))))))) = true then (laws_FnEntered.j0 k true t778 t781 t784 t785 t786 t787 t788 t789 t790 t791 t792 t797 t800 t801 t802 t803 t804 t805 t806 t807 t808) else ((laws_sameInts.f k t797 t811).bind fun t825 => (laws_FnEntered.j0 k (!t825) t778 t781 t784 t785 t786 t787 t788 t789 t790 t791 t792 t797 t800 t801 t802 t803 t804 t805 t806 t807 t808))) = some r := H
  have A6 := Aside0.mk A60
  clear A60
  have HC7 := Aside0.mk H
  clear H
  go_enter Try.func8, Try.ntmps8
  go_upto_region 6 with (first | ((with_reducible refine gate_callee (f := 9) rfl ?_); refine goesM_ (some 14) rfl rfl Try.func9 #[.slice A0 l0.length c0] ?_; (with_reducible refine (laws_big.calls _ _ l0 false _ ?side1 ?side2 A2.out).mono ?_); (case side1 => exact kc HR0.out); (case side2 => exact HC0.out); rintro e w' ⟨rfl, ⟨nd, rfl⟩⟩; refine ⟨_, rfl, ?_⟩) | ((with_reducible refine gate_callee (f := 53) rfl ?_); refine goesM_ (some 17) rfl rfl Try.func53 #[.slice A0 l0.length c0] ?_; (with_reducible refine (spec_DrawEnter.calls k _ _ l0 t778 t781 t784 t785 t786 t787 t788 t789 t790 t791 t792 t793 _ ?side1 ?side2 A4.out).mono ?_); (case side1 => exact kc HR0.out); (case side2 => exact HC0.out); rintro e w8 ⟨v779, v782, rfl, ho0, ho1, hb⟩; refine ⟨_, rfl, ?_⟩; have HO780 := Aside0.mk (Kd.S_lower ho0 (below_size (bw HB.out))); have HO783 := Aside0.mk (Kd.Q_lower ho1 (below_size (bw HB.out))); replace HB := Aside0.mk (below_step (bw HB.out) hb); (try clear hb); (try clear hb2); (try clear hk); (try clear hi); (try clear ho0); (try clear ho1)) | ((with_reducible refine gate_dst (N := 3) rfl ?_); refine bx (N := 3) (cs := #[.slice none 0 0]) (t := 29) ?_; intro gb794 hg w9 hbox hb; replace HO780 := Aside0.mk (Kd.S_below (ks HO780.out) hb); replace HO783 := Aside0.mk (Kd.Q_below (kq HO783.out) hb); have BK794 := Aside0.mk (hbox); have GW794 := Aside0.mk ((gs hg (bw HB.out))); have GE794 := Aside0.mk ((gs hg (bw HB.out))); replace HB := Aside0.mk (below_step (bw HB.out) hb); clear hb hbox hg) | ((with_reducible refine gate_dst (N := 4) rfl ?_); refine bx (N := 4) (cs := #[.slice none 0 0, .int .i64 0]) (t := 32) ?_; intro gb795 hg w10 hbox hb; replace HO780 := Aside0.mk (Kd.S_below (ks HO780.out) hb); replace HO783 := Aside0.mk (Kd.Q_below (kq HO783.out) hb); have BK795 := Aside0.mk (hbox); have GW795 := Aside0.mk ((gs hg (bw HB.out))); have GE795 := Aside0.mk ((gs hg (bw HB.out))); replace HB := Aside0.mk (below_step (bw HB.out) hb); have NB794_795 := Aside0.mk ((ga hg BK794.out)); have NB795_794 := Aside0.mk ((gc hg BK794.out)); replace BK794 := Aside0.mk (bb BK794 hb); clear hb hbox hg) | ((with_reducible refine gate_dst (N := 5) rfl ?_); refine bx (N := 5) (cs := #[.int .i64 0, .int .i64 0, .int .i64 0, .int .i64 0, .bool false, .bool false, .bool false, .bool false]) (t := 55) ?_; intro gb796 hg w11 hbox hb; replace HO780 := Aside0.mk (Kd.S_below (ks HO780.out) hb); replace HO783 := Aside0.mk (Kd.Q_below (kq HO783.out) hb); have BK796 := Aside0.mk (hbox); have GW796 := Aside0.mk ((gs hg (bw HB.out))); have GE796 := Aside0.mk ((gs hg (bw HB.out))); replace HB := Aside0.mk (below_step (bw HB.out) hb); have NB794_796 := Aside0.mk ((ga hg BK794.out)); have NB796_794 := Aside0.mk ((gc hg BK794.out)); replace BK794 := Aside0.mk (bb BK794 hb); have NB795_796 := Aside0.mk ((ga hg BK795.out)); have NB796_795 := Aside0.mk ((gc hg BK795.out)); replace BK795 := Aside0.mk (bb BK795 hb); clear hb hbox hg; obtain ⟨Ao12, co12, eo12⟩ := Kd.S_slice HO780.out; subst eo12; have hnb13 := NB794_795.out; have hnc13 := NB795_794.out; have hnb14 := NB794_796.out; have hnc14 := NB796_794.out; have hcz15_0 : w11.cell? ⟨gb794, 0, none⟩ = some (.slice none 0 0) := cl BK794 0; have hfz15_0 := blk_frozen BK794.out 0; obtain ⟨Ao16, co16, eo16, _⟩ := Kd.Q_slice HO783.out; subst eo16; have hnb17 := NB795_796.out; have hnc17 := NB796_795.out; obtain ⟨hcz18_0, hcz18_1⟩ := ce2 BK795; obtain ⟨hfz18_0, hfz18_1⟩ := fz2 BK795; obtain ⟨hcz19_0, hcz19_1, hcz19_2, hcz19_3, hcz19_4, hcz19_5, hcz19_6, hcz19_7⟩ := ce8 BK796; have hfz19_0 := blk_frozen BK796.out 0; have hfz19_1 := blk_frozen BK796.out 1; have hfz19_2 := blk_frozen BK796.out 2; have hfz19_3 := blk_frozen BK796.out 3; have hfz19_4 := blk_frozen BK796.out 4; have hfz19_5 := blk_frozen BK796.out 5; have hfz19_6 := blk_frozen BK796.out 6; have hfz19_7 := blk_frozen BK796.out 7) | ((with_reducible refine gate_callee (f := 54) rfl ?_); refine goesM_ (some 27) rfl rfl Try.func54 #[.agg #[.slice Ao12 t778.length co12], .agg #[.slice Ao16 t781.length co16, .int .i64 t784], .agg #[.int .i64 t785, .int .i64 t786, .int .i64 t787, .int .i64 t788, .bool t789, .bool t790, .bool t791, .bool t792], .int .i64 t793] ?_; (with_reducible refine (impl_Enter.calls k _ _ t778 _ _ t781 t784 t785 t786 t787 t788 t789 t790 t791 t792 t793 t797 t800 t801 t802 t803 t804 t805 t806 t807 t808 _ ?side1 ?side2 ?side3 ?side4 A5.out).mono ?_); (case side1 => refine (Kd.S_reads' (d := cutK 3 (Kd.int .i64)) (e := 30) (base := w.heap.size) (ok := fun k_ => some k_ ≠ (.slice Ao16 t781.length co16 : Value).ownBlock) (n := t778.length) (c := co12) ?_).2.2; exact (ks ((Kd.S_mono (Kd.S_mono (Kd.S_mono (Kd.S_far (p := ⟨gb796, 7, none⟩) (Kd.S_far (p := ⟨gb796, 6, none⟩) (Kd.S_far (p := ⟨gb796, 5, none⟩) (Kd.S_far (p := ⟨gb796, 4, none⟩) (Kd.S_far (p := ⟨gb796, 3, none⟩) (Kd.S_far (p := ⟨gb796, 2, none⟩) (Kd.S_far (p := ⟨gb796, 1, none⟩) (Kd.S_far (p := ⟨gb796, 0, none⟩) (Kd.S_far (p := ⟨gb795, 1, none⟩) (Kd.S_far (p := ⟨gb795, 0, none⟩) (Kd.S_far (p := ⟨gb794, 0, none⟩) (Kd.S_types (Kd.S_types (Kd.S_types HO780.out BK794.out (by decide)) BK795.out (by decide)) BK796.out (by decide)) (fun _ hk => hk.1.1.2) (.slice Ao12 t778.length co12)) (fun _ hk => hk.1.2) (.slice Ao16 t781.length co16)) (fun _ hk => hk.1.2) (.int .i64 t784)) (fun _ hk => hk.2) (.int .i64 t785)) (fun _ hk => hk.2) (.int .i64 t786)) (fun _ hk => hk.2) (.int .i64 t787)) (fun _ hk => hk.2) (.int .i64 t788)) (fun _ hk => hk.2) (.bool t789)) (fun _ hk => hk.2) (.bool t790)) (fun _ hk => hk.2) (.bool t791)) (fun _ hk => hk.2) (.bool t792)) (fun _ h_ => h_.1)) (fun _ h_ => h_.1)) (fun _ h_ => h_.1))))); (case side2 => exact (Kd.S_reads' HO780.out).2.1); (case side3 => refine (Kd.Q_reads' (e := 3) (base := w.heap.size) (ok := fun k_ => True) (n := t781.length) (c := co16) ?_).2.2; exact (kq ((Kd.Q_mono (Kd.Q_mono (Kd.Q_mono (Kd.Q_far (p := ⟨gb796, 7, none⟩) (Kd.Q_far (p := ⟨gb796, 6, none⟩) (Kd.Q_far (p := ⟨gb796, 5, none⟩) (Kd.Q_far (p := ⟨gb796, 4, none⟩) (Kd.Q_far (p := ⟨gb796, 3, none⟩) (Kd.Q_far (p := ⟨gb796, 2, none⟩) (Kd.Q_far (p := ⟨gb796, 1, none⟩) (Kd.Q_far (p := ⟨gb796, 0, none⟩) (Kd.Q_far (p := ⟨gb795, 1, none⟩) (Kd.Q_far (p := ⟨gb795, 0, none⟩) (Kd.Q_far (p := ⟨gb794, 0, none⟩) (Kd.Q_types (Kd.Q_types (Kd.Q_types HO783.out BK794.out (by decide)) BK795.out (by decide)) BK796.out (by decide)) (fun _ hk => hk.1.1.2) (.slice Ao12 t778.length co12)) (fun _ hk => hk.1.2) (.slice Ao16 t781.length co16)) (fun _ hk => hk.1.2) (.int .i64 t784)) (fun _ hk => hk.2) (.int .i64 t785)) (fun _ hk => hk.2) (.int .i64 t786)) (fun _ hk => hk.2) (.int .i64 t787)) (fun _ hk => hk.2) (.int .i64 t788)) (fun _ hk => hk.2) (.bool t789)) (fun _ hk => hk.2) (.bool t790)) (fun _ hk => hk.2) (.bool t791)) (fun _ hk => hk.2) (.bool t792)) (fun _ h_ => h_.1)) (fun _ h_ => h_.1)) (fun _ h_ => h_.1))))); (case side4 => exact (Kd.Q_reads' HO783.out).2.1); rintro e w20 ⟨v798, rfl, ho0, hb⟩; refine ⟨_, rfl, ?_⟩; replace HO780 := Aside0.mk (Kd.S_elder' (ks ((Kd.S_mono (Kd.S_mono (Kd.S_mono (Kd.S_far (p := ⟨gb796, 7, none⟩) (Kd.S_far (p := ⟨gb796, 6, none⟩) (Kd.S_far (p := ⟨gb796, 5, none⟩) (Kd.S_far (p := ⟨gb796, 4, none⟩) (Kd.S_far (p := ⟨gb796, 3, none⟩) (Kd.S_far (p := ⟨gb796, 2, none⟩) (Kd.S_far (p := ⟨gb796, 1, none⟩) (Kd.S_far (p := ⟨gb796, 0, none⟩) (Kd.S_far (p := ⟨gb795, 1, none⟩) (Kd.S_far (p := ⟨gb795, 0, none⟩) (Kd.S_far (p := ⟨gb794, 0, none⟩) (Kd.S_types (Kd.S_types (Kd.S_types HO780.out BK794.out (by decide)) BK795.out (by decide)) BK796.out (by decide)) (fun _ hk => hk.1.1.2) (.slice Ao12 t778.length co12)) (fun _ hk => hk.1.2) (.slice Ao16 t781.length co16)) (fun _ hk => hk.1.2) (.int .i64 t784)) (fun _ hk => hk.2) (.int .i64 t785)) (fun _ hk => hk.2) (.int .i64 t786)) (fun _ hk => hk.2) (.int .i64 t787)) (fun _ hk => hk.2) (.int .i64 t788)) (fun _ hk => hk.2) (.bool t789)) (fun _ hk => hk.2) (.bool t790)) (fun _ hk => hk.2) (.bool t791)) (fun _ hk => hk.2) (.bool t792)) (fun _ h_ => h_.1)) (fun _ h_ => h_.1)) (fun _ h_ => h_.1)))) (Kd.R_base ho0) hb); have HO799 := Aside0.mk (Kd.R_lower (Kd.R_new' ho0 (Kd.Q_lt (kq ((Kd.Q_mono (Kd.Q_mono (Kd.Q_mono (Kd.Q_far (p := ⟨gb796, 7, none⟩) (Kd.Q_far (p := ⟨gb796, 6, none⟩) (Kd.Q_far (p := ⟨gb796, 5, none⟩) (Kd.Q_far (p := ⟨gb796, 4, none⟩) (Kd.Q_far (p := ⟨gb796, 3, none⟩) (Kd.Q_far (p := ⟨gb796, 2, none⟩) (Kd.Q_far (p := ⟨gb796, 1, none⟩) (Kd.Q_far (p := ⟨gb796, 0, none⟩) (Kd.Q_far (p := ⟨gb795, 1, none⟩) (Kd.Q_far (p := ⟨gb795, 0, none⟩) (Kd.Q_far (p := ⟨gb794, 0, none⟩) (Kd.Q_types (Kd.Q_types (Kd.Q_types HO783.out BK794.out (by decide)) BK795.out (by decide)) BK796.out (by decide)) (fun _ hk => hk.1.1.2) (.slice Ao12 t778.length co12)) (fun _ hk => hk.1.2) (.slice Ao16 t781.length co16)) (fun _ hk => hk.1.2) (.int .i64 t784)) (fun _ hk => hk.2) (.int .i64 t785)) (fun _ hk => hk.2) (.int .i64 t786)) (fun _ hk => hk.2) (.int .i64 t787)) (fun _ hk => hk.2) (.int .i64 t788)) (fun _ hk => hk.2) (.bool t789)) (fun _ hk => hk.2) (.bool t790)) (fun _ hk => hk.2) (.bool t791)) (fun _ hk => hk.2) (.bool t792)) (fun _ h_ => h_.1)) (fun _ h_ => h_.1)) (fun _ h_ => h_.1)))))) (below_size (bw HB.out))); replace HO783 := Aside0.mk (Kd.Q_elder' (kq ((Kd.Q_mono (Kd.Q_mono (Kd.Q_mono (Kd.Q_far (p := ⟨gb796, 7, none⟩) (Kd.Q_far (p := ⟨gb796, 6, none⟩) (Kd.Q_far (p := ⟨gb796, 5, none⟩) (Kd.Q_far (p := ⟨gb796, 4, none⟩) (Kd.Q_far (p := ⟨gb796, 3, none⟩) (Kd.Q_far (p := ⟨gb796, 2, none⟩) (Kd.Q_far (p := ⟨gb796, 1, none⟩) (Kd.Q_far (p := ⟨gb796, 0, none⟩) (Kd.Q_far (p := ⟨gb795, 1, none⟩) (Kd.Q_far (p := ⟨gb795, 0, none⟩) (Kd.Q_far (p := ⟨gb794, 0, none⟩) (Kd.Q_types (Kd.Q_types (Kd.Q_types HO783.out BK794.out (by decide)) BK795.out (by decide)) BK796.out (by decide)) (fun _ hk => hk.1.1.2) (.slice Ao12 t778.length co12)) (fun _ hk => hk.1.2) (.slice Ao16 t781.length co16)) (fun _ hk => hk.1.2) (.int .i64 t784)) (fun _ hk => hk.2) (.int .i64 t785)) (fun _ hk => hk.2) (.int .i64 t786)) (fun _ hk => hk.2) (.int .i64 t787)) (fun _ hk => hk.2) (.int .i64 t788)) (fun _ hk => hk.2) (.bool t789)) (fun _ hk => hk.2) (.bool t790)) (fun _ hk => hk.2) (.bool t791)) (fun _ hk => hk.2) (.bool t792)) (fun _ h_ => h_.1)) (fun _ h_ => h_.1)) (fun _ h_ => h_.1)))) (Kd.R_base ho0) hb); replace BK794 := Aside0.mk (blk_below (g := gb794) (o := .cells #[.slice Ao12 t778.length co12] 29 (0, 0)) (bf2 NB794_796 NB794_795 BK794.out) hb); replace BK795 := Aside0.mk (blk_below (g := gb795) (o := .cells #[.slice Ao16 t781.length co16, .int .i64 t784] 32 (0, 0)) (bf2 NB795_796 NB795_794 BK795.out) hb); replace BK796 := Aside0.mk (blk_below (g := gb796) (o := .cells #[.int .i64 t785, .int .i64 t786, .int .i64 t787, .int .i64 t788, .bool t789, .bool t790, .bool t791, .bool t792] 55 (0, 0)) (bf2 NB796_795 NB796_794 BK796.out) hb); replace HB := Aside0.mk (below_step (bw HB.out) hb); (try clear hb); (try clear hb2); (try clear hk); (try clear hi); (try clear ho0)) | ((with_reducible refine gate_dst (N := 7) rfl ?_); refine bx (N := 7) (cs := #[.slice none 0 0, .int .i64 0]) (t := 32) ?_; intro gb809 hg w21 hbox hb; replace HO780 := Aside0.mk (Kd.S_below (ks HO780.out) hb); replace HO783 := Aside0.mk (Kd.Q_below (kq HO783.out) hb); replace HO799 := Aside0.mk (Kd.R_below (kr HO799.out) hb); have BK809 := Aside0.mk (hbox); have GW809 := Aside0.mk ((gs hg (bw HB.out))); have GE809 := Aside0.mk ((gs hg (bw HB.out))); replace HB := Aside0.mk (below_step (bw HB.out) hb); have NB794_809 := Aside0.mk ((ga hg BK794.out)); have NB809_794 := Aside0.mk ((gc hg BK794.out)); replace BK794 := Aside0.mk (bb BK794 hb); have NB795_809 := Aside0.mk ((ga hg BK795.out)); have NB809_795 := Aside0.mk ((gc hg BK795.out)); replace BK795 := Aside0.mk (bb BK795 hb); have NB796_809 := Aside0.mk ((ga hg BK796.out)); have NB809_796 := Aside0.mk ((gc hg BK796.out)); replace BK796 := Aside0.mk (bb BK796 hb); clear hb hbox hg) | ((with_reducible refine gate_dst (N := 8) rfl ?_); refine bx (N := 8) (cs := #[.int .i64 0, .int .i64 0, .int .i64 0, .int .i64 0, .bool false, .bool false, .bool false, .bool false]) (t := 55) ?_; intro gb810 hg w22 hbox hb; replace HO780 := Aside0.mk (Kd.S_below (ks HO780.out) hb); replace HO783 := Aside0.mk (Kd.Q_below (kq HO783.out) hb); replace HO799 := Aside0.mk (Kd.R_below (kr HO799.out) hb); have BK810 := Aside0.mk (hbox); have GW810 := Aside0.mk ((gs hg (bw HB.out))); have GE810 := Aside0.mk ((gs hg (bw HB.out))); replace HB := Aside0.mk (below_step (bw HB.out) hb); have NB794_810 := Aside0.mk ((ga hg BK794.out)); have NB810_794 := Aside0.mk ((gc hg BK794.out)); replace BK794 := Aside0.mk (bb BK794 hb); have NB795_810 := Aside0.mk ((ga hg BK795.out)); have NB810_795 := Aside0.mk ((gc hg BK795.out)); replace BK795 := Aside0.mk (bb BK795 hb); have NB796_810 := Aside0.mk ((ga hg BK796.out)); have NB810_796 := Aside0.mk ((gc hg BK796.out)); replace BK796 := Aside0.mk (bb BK796 hb); have NB809_810 := Aside0.mk ((ga hg BK809.out)); have NB810_809 := Aside0.mk ((gc hg BK809.out)); replace BK809 := Aside0.mk (bb BK809 hb); clear hb hbox hg; obtain ⟨Ao23, co23, eo23⟩ := Kd.R_slice HO799.out; subst eo23; have hnb24 := NB809_794.out; have hnc24 := NB794_809.out; have hnb25 := NB809_795.out; have hnc25 := NB795_809.out; have hnb26 := NB809_796.out; have hnc26 := NB796_809.out; have hnb27 := NB809_810.out; have hnc27 := NB810_809.out; obtain ⟨hcz28_0, hcz28_1⟩ := ce2 BK809; obtain ⟨hfz28_0, hfz28_1⟩ := fz2 BK809; have hnb29 := NB810_794.out; have hnc29 := NB794_810.out; have hnb30 := NB810_795.out; have hnc30 := NB795_810.out; have hnb31 := NB810_796.out; have hnc31 := NB796_810.out; obtain ⟨hcz32_0, hcz32_1, hcz32_2, hcz32_3, hcz32_4, hcz32_5, hcz32_6, hcz32_7⟩ := ce8 BK810; obtain ⟨hfz32_0, hfz32_1, hfz32_2, hfz32_3, hfz32_4, hfz32_5, hfz32_6, hfz32_7⟩ := fz8 BK810; have hcz33_0 : w22.cell? ⟨gb794, 0, none⟩ = some (.slice Ao12 t778.length co12) := cl BK794 0; have hfz33_0 := blk_frozen BK794.out 0; obtain ⟨hcz34_0, hcz34_1⟩ := ce2 BK795; obtain ⟨hfz34_0, hfz34_1⟩ := fz2 BK795; obtain ⟨hcz35_0, hcz35_1, hcz35_2, hcz35_3, hcz35_4, hcz35_5, hcz35_6, hcz35_7⟩ := ce8 BK796; have hfz35_0 := blk_frozen BK796.out 0; have hfz35_1 := blk_frozen BK796.out 1; have hfz35_2 := blk_frozen BK796.out 2; have hfz35_3 := blk_frozen BK796.out 3; have hfz35_4 := blk_frozen BK796.out 4; have hfz35_5 := blk_frozen BK796.out 5; have hfz35_6 := blk_frozen BK796.out 6; have hfz35_7 := blk_frozen BK796.out 7) | ((with_reducible refine gate_callee (f := 55) rfl ?_); refine goesM_ (some 35) rfl rfl Try.func55 #[.agg #[.slice Ao12 t778.length co12], .agg #[.slice Ao16 t781.length co16, .int .i64 t784], .agg #[.int .i64 t785, .int .i64 t786, .int .i64 t787, .int .i64 t788, .bool t789, .bool t790, .bool t791, .bool t792], .int .i64 t793] ?_; (with_reducible refine (spec_Enter.calls k _ _ t778 _ _ t781 t784 t785 t786 t787 t788 t789 t790 t791 t792 t793 t811 t814 t815 t816 t817 t818 t819 t820 t821 t822 _ ?side1 ?side2 ?side3 ?side4 A6.out).mono ?_); (case side1 => refine (Kd.S_reads' (d := cutK 3 (Kd.int .i64)) (e := 30) (base := w.heap.size) (ok := fun k_ => (some k_ ≠ (.slice Ao16 t781.length co16 : Value).ownBlock ∧ some k_ ≠ (.slice Ao23 t797.length co23 : Value).ownBlock)) (n := t778.length) (c := co12) ?_).2.2; exact (ks ((Kd.S_mono (Kd.S_mono (Kd.S_far (p := ⟨gb810, 7, none⟩) (Kd.S_far (p := ⟨gb810, 6, none⟩) (Kd.S_far (p := ⟨gb810, 5, none⟩) (Kd.S_far (p := ⟨gb810, 4, none⟩) (Kd.S_far (p := ⟨gb810, 3, none⟩) (Kd.S_far (p := ⟨gb810, 2, none⟩) (Kd.S_far (p := ⟨gb810, 1, none⟩) (Kd.S_far (p := ⟨gb810, 0, none⟩) (Kd.S_far (p := ⟨gb809, 1, none⟩) (Kd.S_far (p := ⟨gb809, 0, none⟩) (Kd.S_types (Kd.S_types HO780.out BK809.out (by decide)) BK810.out (by decide)) (fun _ hk => hk.1.2) (.slice Ao23 t797.length co23)) (fun _ hk => hk.1.2) (.int .i64 t800)) (fun _ hk => hk.2) (.int .i64 t801)) (fun _ hk => hk.2) (.int .i64 t802)) (fun _ hk => hk.2) (.int .i64 t803)) (fun _ hk => hk.2) (.int .i64 t804)) (fun _ hk => hk.2) (.bool t805)) (fun _ hk => hk.2) (.bool t806)) (fun _ hk => hk.2) (.bool t807)) (fun _ hk => hk.2) (.bool t808)) (fun _ h_ => h_.1)) (fun _ h_ => h_.1))))); (case side2 => exact (Kd.S_reads' HO780.out).2.1); (case side3 => refine (Kd.Q_reads' (e := 3) (base := w.heap.size) (ok := fun k_ => (True ∧ some k_ ≠ (.slice Ao23 t797.length co23 : Value).ownBlock)) (n := t781.length) (c := co16) ?_).2.2; exact (kq ((Kd.Q_mono (Kd.Q_mono (Kd.Q_far (p := ⟨gb810, 7, none⟩) (Kd.Q_far (p := ⟨gb810, 6, none⟩) (Kd.Q_far (p := ⟨gb810, 5, none⟩) (Kd.Q_far (p := ⟨gb810, 4, none⟩) (Kd.Q_far (p := ⟨gb810, 3, none⟩) (Kd.Q_far (p := ⟨gb810, 2, none⟩) (Kd.Q_far (p := ⟨gb810, 1, none⟩) (Kd.Q_far (p := ⟨gb810, 0, none⟩) (Kd.Q_far (p := ⟨gb809, 1, none⟩) (Kd.Q_far (p := ⟨gb809, 0, none⟩) (Kd.Q_types (Kd.Q_types HO783.out BK809.out (by decide)) BK810.out (by decide)) (fun _ hk => hk.1.2) (.slice Ao23 t797.length co23)) (fun _ hk => hk.1.2) (.int .i64 t800)) (fun _ hk => hk.2) (.int .i64 t801)) (fun _ hk => hk.2) (.int .i64 t802)) (fun _ hk => hk.2) (.int .i64 t803)) (fun _ hk => hk.2) (.int .i64 t804)) (fun _ hk => hk.2) (.bool t805)) (fun _ hk => hk.2) (.bool t806)) (fun _ hk => hk.2) (.bool t807)) (fun _ hk => hk.2) (.bool t808)) (fun _ h_ => h_.1)) (fun _ h_ => h_.1))))); (case side4 => exact (Kd.Q_reads' HO783.out).2.1); rintro e w36 ⟨v812, rfl, ho0, hb⟩; refine ⟨_, rfl, ?_⟩; replace HO780 := Aside0.mk (Kd.S_elder' (ks ((Kd.S_mono (Kd.S_mono (Kd.S_far (p := ⟨gb810, 7, none⟩) (Kd.S_far (p := ⟨gb810, 6, none⟩) (Kd.S_far (p := ⟨gb810, 5, none⟩) (Kd.S_far (p := ⟨gb810, 4, none⟩) (Kd.S_far (p := ⟨gb810, 3, none⟩) (Kd.S_far (p := ⟨gb810, 2, none⟩) (Kd.S_far (p := ⟨gb810, 1, none⟩) (Kd.S_far (p := ⟨gb810, 0, none⟩) (Kd.S_far (p := ⟨gb809, 1, none⟩) (Kd.S_far (p := ⟨gb809, 0, none⟩) (Kd.S_types (Kd.S_types HO780.out BK809.out (by decide)) BK810.out (by decide)) (fun _ hk => hk.1.2) (.slice Ao23 t797.length co23)) (fun _ hk => hk.1.2) (.int .i64 t800)) (fun _ hk => hk.2) (.int .i64 t801)) (fun _ hk => hk.2) (.int .i64 t802)) (fun _ hk => hk.2) (.int .i64 t803)) (fun _ hk => hk.2) (.int .i64 t804)) (fun _ hk => hk.2) (.bool t805)) (fun _ hk => hk.2) (.bool t806)) (fun _ hk => hk.2) (.bool t807)) (fun _ hk => hk.2) (.bool t808)) (fun _ h_ => h_.1)) (fun _ h_ => h_.1)))) (Kd.R_base ho0) hb); have HO813 := Aside0.mk (Kd.R_lower (Kd.R_new' (Kd.R_new' ho0 (Kd.Q_lt (kq ((Kd.Q_mono (Kd.Q_mono (Kd.Q_far (p := ⟨gb810, 7, none⟩) (Kd.Q_far (p := ⟨gb810, 6, none⟩) (Kd.Q_far (p := ⟨gb810, 5, none⟩) (Kd.Q_far (p := ⟨gb810, 4, none⟩) (Kd.Q_far (p := ⟨gb810, 3, none⟩) (Kd.Q_far (p := ⟨gb810, 2, none⟩) (Kd.Q_far (p := ⟨gb810, 1, none⟩) (Kd.Q_far (p := ⟨gb810, 0, none⟩) (Kd.Q_far (p := ⟨gb809, 1, none⟩) (Kd.Q_far (p := ⟨gb809, 0, none⟩) (Kd.Q_types (Kd.Q_types HO783.out BK809.out (by decide)) BK810.out (by decide)) (fun _ hk => hk.1.2) (.slice Ao23 t797.length co23)) (fun _ hk => hk.1.2) (.int .i64 t800)) (fun _ hk => hk.2) (.int .i64 t801)) (fun _ hk => hk.2) (.int .i64 t802)) (fun _ hk => hk.2) (.int .i64 t803)) (fun _ hk => hk.2) (.int .i64 t804)) (fun _ hk => hk.2) (.bool t805)) (fun _ hk => hk.2) (.bool t806)) (fun _ hk => hk.2) (.bool t807)) (fun _ hk => hk.2) (.bool t808)) (fun _ h_ => h_.1)) (fun _ h_ => h_.1)))))) (Kd.R_lt (kr ((Kd.R_mono (Kd.R_mono (Kd.R_far (p := ⟨gb810, 7, none⟩) (Kd.R_far (p := ⟨gb810, 6, none⟩) (Kd.R_far (p := ⟨gb810, 5, none⟩) (Kd.R_far (p := ⟨gb810, 4, none⟩) (Kd.R_far (p := ⟨gb810, 3, none⟩) (Kd.R_far (p := ⟨gb810, 2, none⟩) (Kd.R_far (p := ⟨gb810, 1, none⟩) (Kd.R_far (p := ⟨gb810, 0, none⟩) (Kd.R_far (p := ⟨gb809, 1, none⟩) (Kd.R_far (p := ⟨gb809, 0, none⟩) (Kd.R_types (Kd.R_types HO799.out BK809.out (by decide)) BK810.out (by decide)) (fun _ hk => hk.1.2) (.slice Ao23 t797.length co23)) (fun _ hk => hk.1.2) (.int .i64 t800)) (fun _ hk => hk.2) (.int .i64 t801)) (fun _ hk => hk.2) (.int .i64 t802)) (fun _ hk => hk.2) (.int .i64 t803)) (fun _ hk => hk.2) (.int .i64 t804)) (fun _ hk => hk.2) (.bool t805)) (fun _ hk => hk.2) (.bool t806)) (fun _ hk => hk.2) (.bool t807)) (fun _ hk => hk.2) (.bool t808)) (fun _ h_ => h_.1)) (fun _ h_ => h_.1)))))) (below_size (bw HB.out))); replace HO783 := Aside0.mk (Kd.Q_elder' (kq ((Kd.Q_mono (Kd.Q_mono (Kd.Q_far (p := ⟨gb810, 7, none⟩) (Kd.Q_far (p := ⟨gb810, 6, none⟩) (Kd.Q_far (p := ⟨gb810, 5, none⟩) (Kd.Q_far (p := ⟨gb810, 4, none⟩) (Kd.Q_far (p := ⟨gb810, 3, none⟩) (Kd.Q_far (p := ⟨gb810, 2, none⟩) (Kd.Q_far (p := ⟨gb810, 1, none⟩) (Kd.Q_far (p := ⟨gb810, 0, none⟩) (Kd.Q_far (p := ⟨gb809, 1, none⟩) (Kd.Q_far (p := ⟨gb809, 0, none⟩) (Kd.Q_types (Kd.Q_types HO783.out BK809.out (by decide)) BK810.out (by decide)) (fun _ hk => hk.1.2) (.slice Ao23 t797.length co23)) (fun _ hk => hk.1.2) (.int .i64 t800)) (fun _ hk => hk.2) (.int .i64 t801)) (fun _ hk => hk.2) (.int .i64 t802)) (fun _ hk => hk.2) (.int .i64 t803)) (fun _ hk => hk.2) (.int .i64 t804)) (fun _ hk => hk.2) (.bool t805)) (fun _ hk => hk.2) (.bool t806)) (fun _ hk => hk.2) (.bool t807)) (fun _ hk => hk.2) (.bool t808)) (fun _ h_ => h_.1)) (fun _ h_ => h_.1)))) (Kd.R_base ho0) hb); replace HO799 := Aside0.mk (Kd.R_elder' (kr ((Kd.R_mono (Kd.R_mono (Kd.R_far (p := ⟨gb810, 7, none⟩) (Kd.R_far (p := ⟨gb810, 6, none⟩) (Kd.R_far (p := ⟨gb810, 5, none⟩) (Kd.R_far (p := ⟨gb810, 4, none⟩) (Kd.R_far (p := ⟨gb810, 3, none⟩) (Kd.R_far (p := ⟨gb810, 2, none⟩) (Kd.R_far (p := ⟨gb810, 1, none⟩) (Kd.R_far (p := ⟨gb810, 0, none⟩) (Kd.R_far (p := ⟨gb809, 1, none⟩) (Kd.R_far (p := ⟨gb809, 0, none⟩) (Kd.R_types (Kd.R_types HO799.out BK809.out (by decide)) BK810.out (by decide)) (fun _ hk => hk.1.2) (.slice Ao23 t797.length co23)) (fun _ hk => hk.1.2) (.int .i64 t800)) (fun _ hk => hk.2) (.int .i64 t801)) (fun _ hk => hk.2) (.int .i64 t802)) (fun _ hk => hk.2) (.int .i64 t803)) (fun _ hk => hk.2) (.int .i64 t804)) (fun _ hk => hk.2) (.bool t805)) (fun _ hk => hk.2) (.bool t806)) (fun _ hk => hk.2) (.bool t807)) (fun _ hk => hk.2) (.bool t808)) (fun _ h_ => h_.1)) (fun _ h_ => h_.1)))) (Kd.R_base ho0) hb); replace BK794 := Aside0.mk (blk_below (g := gb794) (o := .cells #[.slice Ao12 t778.length co12] 29 (0, 0)) (kf BK794.out) hb); replace BK795 := Aside0.mk (blk_below (g := gb795) (o := .cells #[.slice Ao16 t781.length co16, .int .i64 t784] 32 (0, 0)) (kf BK795.out) hb); replace BK796 := Aside0.mk (blk_below (g := gb796) (o := .cells #[.int .i64 t785, .int .i64 t786, .int .i64 t787, .int .i64 t788, .bool t789, .bool t790, .bool t791, .bool t792] 55 (0, 0)) (kf BK796.out) hb); replace BK809 := Aside0.mk (blk_below (g := gb809) (o := .cells #[.slice Ao23 t797.length co23, .int .i64 t800] 32 (0, 0)) (bf NB809_810 BK809.out) hb); replace BK810 := Aside0.mk (blk_below (g := gb810) (o := .cells #[.int .i64 t801, .int .i64 t802, .int .i64 t803, .int .i64 t804, .bool t805, .bool t806, .bool t807, .bool t808] 55 (0, 0)) (bf NB810_809 BK810.out) hb); replace HB := Aside0.mk (below_step (bw HB.out) hb); (try clear hb); (try clear hb2); (try clear hk); (try clear hi); (try clear ho0)) | ((with_reducible refine gate_dst (N := 9) rfl ?_); refine bx (N := 9) (cs := #[.slice none 0 0, .int .i64 0]) (t := 32) ?_; intro gb823 hg w37 hbox hb; replace HO780 := Aside0.mk (Kd.S_below (ks HO780.out) hb); replace HO783 := Aside0.mk (Kd.Q_below (kq HO783.out) hb); replace HO799 := Aside0.mk (Kd.R_below (kr HO799.out) hb); replace HO813 := Aside0.mk (Kd.R_below (kr HO813.out) hb); have BK823 := Aside0.mk (hbox); have GW823 := Aside0.mk ((gs hg (bw HB.out))); have GE823 := Aside0.mk ((gs hg (bw HB.out))); replace HB := Aside0.mk (below_step (bw HB.out) hb); have NB794_823 := Aside0.mk ((ga hg BK794.out)); have NB823_794 := Aside0.mk ((gc hg BK794.out)); replace BK794 := Aside0.mk (bb BK794 hb); have NB795_823 := Aside0.mk ((ga hg BK795.out)); have NB823_795 := Aside0.mk ((gc hg BK795.out)); replace BK795 := Aside0.mk (bb BK795 hb); have NB796_823 := Aside0.mk ((ga hg BK796.out)); have NB823_796 := Aside0.mk ((gc hg BK796.out)); replace BK796 := Aside0.mk (bb BK796 hb); have NB809_823 := Aside0.mk ((ga hg BK809.out)); have NB823_809 := Aside0.mk ((gc hg BK809.out)); replace BK809 := Aside0.mk (bb BK809 hb); have NB810_823 := Aside0.mk ((ga hg BK810.out)); have NB823_810 := Aside0.mk ((gc hg BK810.out)); replace BK810 := Aside0.mk (bb BK810 hb); clear hb hbox hg) | ((with_reducible refine gate_dst (N := 10) rfl ?_); refine bx (N := 10) (cs := #[.int .i64 0, .int .i64 0, .int .i64 0, .int .i64 0, .bool false, .bool false, .bool false, .bool false]) (t := 55) ?_; intro gb824 hg w38 hbox hb; replace HO780 := Aside0.mk (Kd.S_below (ks HO780.out) hb); replace HO783 := Aside0.mk (Kd.Q_below (kq HO783.out) hb); replace HO799 := Aside0.mk (Kd.R_below (kr HO799.out) hb); replace HO813 := Aside0.mk (Kd.R_below (kr HO813.out) hb); have BK824 := Aside0.mk (hbox); have GW824 := Aside0.mk ((gs hg (bw HB.out))); have GE824 := Aside0.mk ((gs hg (bw HB.out))); replace HB := Aside0.mk (below_step (bw HB.out) hb); have NB794_824 := Aside0.mk ((ga hg BK794.out)); have NB824_794 := Aside0.mk ((gc hg BK794.out)); replace BK794 := Aside0.mk (bb BK794 hb); have NB795_824 := Aside0.mk ((ga hg BK795.out)); have NB824_795 := Aside0.mk ((gc hg BK795.out)); replace BK795 := Aside0.mk (bb BK795 hb); have NB796_824 := Aside0.mk ((ga hg BK796.out)); have NB824_796 := Aside0.mk ((gc hg BK796.out)); replace BK796 := Aside0.mk (bb BK796 hb); have NB809_824 := Aside0.mk ((ga hg BK809.out)); have NB824_809 := Aside0.mk ((gc hg BK809.out)); replace BK809 := Aside0.mk (bb BK809 hb); have NB810_824 := Aside0.mk ((ga hg BK810.out)); have NB824_810 := Aside0.mk ((gc hg BK810.out)); replace BK810 := Aside0.mk (bb BK810 hb); have NB823_824 := Aside0.mk ((ga hg BK823.out)); have NB824_823 := Aside0.mk ((gc hg BK823.out)); replace BK823 := Aside0.mk (bb BK823 hb); clear hb hbox hg; obtain ⟨Ao39, co39, eo39⟩ := Kd.R_slice HO813.out; subst eo39; have hnb40 := NB823_794.out; have hnc40 := NB794_823.out; have hnb41 := NB823_795.out; have hnc41 := NB795_823.out; have hnb42 := NB823_796.out; have hnc42 := NB796_823.out; have hnb43 := NB823_809.out; have hnc43 := NB809_823.out; have hnb44 := NB823_810.out; have hnc44 := NB810_823.out; have hnb45 := NB823_824.out; have hnc45 := NB824_823.out; obtain ⟨hcz46_0, hcz46_1⟩ := ce2 BK823; obtain ⟨hfz46_0, hfz46_1⟩ := fz2 BK823; have hnb47 := NB824_794.out; have hnc47 := NB794_824.out; have hnb48 := NB824_795.out; have hnc48 := NB795_824.out; have hnb49 := NB824_796.out; have hnc49 := NB796_824.out; have hnb50 := NB824_809.out; have hnc50 := NB809_824.out; have hnb51 := NB824_810.out; have hnc51 := NB810_824.out; obtain ⟨hcz52_0, hcz52_1, hcz52_2, hcz52_3, hcz52_4, hcz52_5, hcz52_6, hcz52_7⟩ := ce8 BK824; have hfz52_0 := blk_frozen BK824.out 0; have hfz52_1 := blk_frozen BK824.out 1; have hfz52_2 := blk_frozen BK824.out 2; have hfz52_3 := blk_frozen BK824.out 3; have hfz52_4 := blk_frozen BK824.out 4; have hfz52_5 := blk_frozen BK824.out 5; have hfz52_6 := blk_frozen BK824.out 6; have hfz52_7 := blk_frozen BK824.out 7))
  (try simp only [Act.put, List.setIfInBounds_toArray, List.set_cons_zero, List.set_cons_succ])
  go_cut [48] (fun v48 wc => ∃ (kq : Nat) (x48_6 : Bool), v48 = .bool x48_6 ∧ Aside0 (laws_FnEntered.j0 kq x48_6 t778 t781 t784 t785 t786 t787 t788 t789 t790 t791 t792 t797 t800 t801 t802 t803 t804 t805 t806 t807 t808 = some r) ∧ Aside0 (kq ≤ k) ∧ Aside0 (Kd.S (cutK 3 (Kd.int .i64)) 30 wc w.heap.size (fun k_ => some k_ ≠ ((.slice Ao16 t781.length co16) : Value).ownBlock ∧ some k_ ≠ ((.slice Ao23 t797.length co23) : Value).ownBlock ∧ some k_ ≠ ((.slice Ao39 t811.length co39) : Value).ownBlock) (.slice Ao12 t778.length co12) t778) ∧ Aside0 (Kd.Q (Kd.int .i64) 3 wc w.heap.size (fun k_ => some k_ ≠ ((.slice Ao23 t797.length co23) : Value).ownBlock ∧ some k_ ≠ ((.slice Ao39 t811.length co39) : Value).ownBlock) (.slice Ao16 t781.length co16) t781) ∧ Aside0 (Kd.Q (Kd.int .i64) 3 wc w.heap.size (fun k_ => some k_ ≠ ((.slice Ao16 t781.length co16) : Value).ownBlock ∧ some k_ ≠ ((.slice Ao39 t811.length co39) : Value).ownBlock) (.slice Ao23 t797.length co23) t797) ∧ Aside0 (Kd.Q (Kd.int .i64) 3 wc w.heap.size (fun k_ => some k_ ≠ ((.slice Ao16 t781.length co16) : Value).ownBlock ∧ some k_ ≠ ((.slice Ao23 t797.length co23) : Value).ownBlock) (.slice Ao39 t811.length co39) t811) ∧ Aside0 (wc.heap[gb794]? = some (.cells #[(.slice Ao12 t778.length co12)] 29 (0, 0))) ∧ Aside0 (wc.heap[gb795]? = some (.cells #[(.slice Ao16 t781.length co16), .int .i64 t784] 32 (0, 0))) ∧ Aside0 (wc.heap[gb796]? = some (.cells #[.int .i64 t785, .int .i64 t786, .int .i64 t787, .int .i64 t788, .bool t789, .bool t790, .bool t791, .bool t792] 55 (0, 0))) ∧ Aside0 (wc.heap[gb809]? = some (.cells #[(.slice Ao23 t797.length co23), .int .i64 t800] 32 (0, 0))) ∧ Aside0 (wc.heap[gb810]? = some (.cells #[.int .i64 t801, .int .i64 t802, .int .i64 t803, .int .i64 t804, .bool t805, .bool t806, .bool t807, .bool t808] 55 (0, 0))) ∧ Aside0 (wc.heap[gb823]? = some (.cells #[(.slice Ao39 t811.length co39), .int .i64 t814] 32 (0, 0))) ∧ Aside0 (wc.heap[gb824]? = some (.cells #[.int .i64 t815, .int .i64 t816, .int .i64 t817, .int .i64 t818, .bool t819, .bool t820, .bool t821, .bool t822] 55 (0, 0))) ∧ Aside0 (Below w.heap.size w wc))
  case first =>
   have H := HC7.out
   clear HC7
   by_cases c53 : (!(t801 == t815) || (!(t802 == t816) || (!(t803 == t817) || (!(t804 == t818) || (!(t805 == t819) || (!(t806 == t820) || (!(t807 == t821) || (!(t808 == t822))))))))) = true
   ·rw [if_pos c53] at H
    have c53b0 : (!(t801 == t815) || (!(t802 == t816) || (!(t803 == t817) || (!(t804 == t818) || (!(t805 == t819) || (!(t806 == t820) || (!(t807 == t821) || (!(t808 == t822))))))))) = true := c53
    clear c53
    (first | rw [c53b0] | (simp only [i64_w, i32_w]; rw [c53b0]) | skip)
    exact absurd (show r = false by first | (cases k with | zero => (simp [laws_FnEntered.j0] at H; done) | succ k_ => (simp [laws_FnEntered.j0] at H; (first | exact H | exact H.symm))) | (cases kj6 with | zero => (simp [laws_FnEntered.j0] at H; done) | succ k_ => (simp [laws_FnEntered.j0] at H; (first | exact H | exact H.symm))) | (cases kj90 with | zero => (simp [laws_FnEntered.j0] at H; done) | succ k_ => (simp [laws_FnEntered.j0] at H; (first | exact H | exact H.symm)))) (by rw [hrt]; decide)
   ·rw [if_neg c53] at H
    have c53b0 : (!(t801 == t815) || (!(t802 == t816) || (!(t803 == t817) || (!(t804 == t818) || (!(t805 == t819) || (!(t806 == t820) || (!(t807 == t821) || (!(t808 == t822))))))))) = false := by simpa using c53
    have q_ : t801 = t815 ∧ t802 = t816 ∧ t803 = t817 ∧ t804 = t818 ∧ t805 = t819 ∧ t806 = t820 ∧ t807 = t821 ∧ t808 = t822 := by simpa using c53b0
    clear c53b0
    obtain ⟨rfl, rfl, rfl, rfl, rfl, rfl, rfl, rfl⟩ := q_
    clear c53
    skip
    replace H := Option.bind_eq_some_iff.mp H
    obtain ⟨t825, A670, H⟩ := H
    replace H : (laws_FnEntered.j0 k (!t825) t778 t781 t784 t785 t786 t787 t788 t789 t790 t791 t792 t797 t800 t801 t802 t803 t804 t805 t806 t807 t808) = some r := H
    have A67 := Aside0.mk A670
    clear A670
    have H' := Aside0.mk H
    clear H
    have hnb68 := NB810_794.out
    have hnc68 := NB794_810.out
    have hnb69 := NB810_795.out
    have hnc69 := NB795_810.out
    have hnb70 := NB810_796.out
    have hnc70 := NB796_810.out
    have hnb71 := NB810_809.out
    have hnc71 := NB809_810.out
    have hnb72 := NB810_823.out
    have hnc72 := NB823_810.out
    have hnb73 := NB810_824.out
    have hnc73 := NB824_810.out
    obtain ⟨hcz74_0, hcz74_1, hcz74_2, hcz74_3, hcz74_4, hcz74_5, hcz74_6, hcz74_7⟩ := ce8 BK810
    obtain ⟨hfz74_0, hfz74_1, hfz74_2, hfz74_3, hfz74_4, hfz74_5, hfz74_6, hfz74_7⟩ := fz8 BK810
    have hnb75 := NB824_794.out
    have hnc75 := NB794_824.out
    have hnb76 := NB824_795.out
    have hnc76 := NB795_824.out
    have hnb77 := NB824_796.out
    have hnc77 := NB796_824.out
    have hnb78 := NB824_809.out
    have hnc78 := NB809_824.out
    have hnb79 := NB824_823.out
    have hnc79 := NB823_824.out
    obtain ⟨hcz80_0, hcz80_1, hcz80_2, hcz80_3, hcz80_4, hcz80_5, hcz80_6, hcz80_7⟩ := ce8 BK824
    obtain ⟨hfz80_0, hfz80_1, hfz80_2, hfz80_3, hfz80_4, hfz80_5, hfz80_6, hfz80_7⟩ := fz8 BK824
    have hnb81 := NB809_794.out
    have hnc81 := NB794_809.out
    have hnb82 := NB809_795.out
    have hnc82 := NB795_809.out
    have hnb83 := NB809_796.out
    have hnc83 := NB796_809.out
    have hnb84 := NB809_823.out
    have hnc84 := NB823_809.out
    obtain ⟨hcz85_0, hcz85_1⟩ := ce2 BK809
    obtain ⟨hfz85_0, hfz85_1⟩ := fz2 BK809
    have hnb86 := NB823_794.out
    have hnc86 := NB794_823.out
    have hnb87 := NB823_795.out
    have hnc87 := NB795_823.out
    have hnb88 := NB823_796.out
    have hnc88 := NB796_823.out
    obtain ⟨hcz89_0, hcz89_1⟩ := ce2 BK823
    obtain ⟨hfz89_0, hfz89_1⟩ := fz2 BK823
    go_wp2_with (first | (go_at_call 26; (with_reducible refine (laws_sameInts.calls k _ _ t797 _ _ t811 t825 _ ?side1 ?side2 ?side3 ?side4 A67.out).mono ?_); (case side1 => refine (Kd.R_reads' (e := 3) (base := w.heap.size) (ok := fun k_ => ((True ∧ some k_ ≠ (.slice Ao16 t781.length co16 : Value).ownBlock) ∧ some k_ ≠ (.slice Ao39 t811.length co39 : Value).ownBlock)) (n := t797.length) (c := co23) ?_).2.2; exact (kr ((Kd.R_mono (Kd.R_mono (Kd.R_far (p := ⟨gb824, 7, none⟩) (Kd.R_far (p := ⟨gb824, 6, none⟩) (Kd.R_far (p := ⟨gb824, 5, none⟩) (Kd.R_far (p := ⟨gb824, 4, none⟩) (Kd.R_far (p := ⟨gb824, 3, none⟩) (Kd.R_far (p := ⟨gb824, 2, none⟩) (Kd.R_far (p := ⟨gb824, 1, none⟩) (Kd.R_far (p := ⟨gb824, 0, none⟩) (Kd.R_far (p := ⟨gb823, 1, none⟩) (Kd.R_far (p := ⟨gb823, 0, none⟩) (Kd.R_types (Kd.R_types HO799.out BK823.out (by decide)) BK824.out (by decide)) (fun _ hk => hk.1.2) (.slice Ao39 t811.length co39)) (fun _ hk => hk.1.2) (.int .i64 t814)) (fun _ hk => hk.2) (.int .i64 t801)) (fun _ hk => hk.2) (.int .i64 t802)) (fun _ hk => hk.2) (.int .i64 t803)) (fun _ hk => hk.2) (.int .i64 t804)) (fun _ hk => hk.2) (.bool t805)) (fun _ hk => hk.2) (.bool t806)) (fun _ hk => hk.2) (.bool t807)) (fun _ hk => hk.2) (.bool t808)) (fun _ h_ => h_.1)) (fun _ h_ => h_.1))))); (case side2 => exact (Kd.R_reads' HO799.out).2.1); (case side3 => refine (Kd.R_reads' (e := 3) (base := w.heap.size) (ok := fun k_ => ((True ∧ some k_ ≠ (.slice Ao16 t781.length co16 : Value).ownBlock) ∧ some k_ ≠ (.slice Ao23 t797.length co23 : Value).ownBlock)) (n := t811.length) (c := co39) ?_).2.2; exact (kr ((Kd.R_mono (Kd.R_mono (Kd.R_far (p := ⟨gb824, 7, none⟩) (Kd.R_far (p := ⟨gb824, 6, none⟩) (Kd.R_far (p := ⟨gb824, 5, none⟩) (Kd.R_far (p := ⟨gb824, 4, none⟩) (Kd.R_far (p := ⟨gb824, 3, none⟩) (Kd.R_far (p := ⟨gb824, 2, none⟩) (Kd.R_far (p := ⟨gb824, 1, none⟩) (Kd.R_far (p := ⟨gb824, 0, none⟩) (Kd.R_far (p := ⟨gb823, 1, none⟩) (Kd.R_far (p := ⟨gb823, 0, none⟩) (Kd.R_types (Kd.R_types HO813.out BK823.out (by decide)) BK824.out (by decide)) (fun _ hk => hk.1.2) (.slice Ao39 t811.length co39)) (fun _ hk => hk.1.2) (.int .i64 t814)) (fun _ hk => hk.2) (.int .i64 t801)) (fun _ hk => hk.2) (.int .i64 t802)) (fun _ hk => hk.2) (.int .i64 t803)) (fun _ hk => hk.2) (.int .i64 t804)) (fun _ hk => hk.2) (.bool t805)) (fun _ hk => hk.2) (.bool t806)) (fun _ hk => hk.2) (.bool t807)) (fun _ hk => hk.2) (.bool t808)) (fun _ h_ => h_.1)) (fun _ h_ => h_.1))))); (case side4 => exact (Kd.R_reads' HO813.out).2.1); rintro e w' ⟨rfl, ⟨nd, rfl⟩⟩))
    go_meet
    case rel => exact ⟨_, (!t825), (by first | rfl | (simp; done) | (simp [*]; done)), H', ⟨by first | omega | exact Nat.le_refl _⟩, ⟨ks (Kd.S_mono (Kd.S_far (p := ⟨gb824, 7, none⟩) (Kd.S_far (p := ⟨gb824, 6, none⟩) (Kd.S_far (p := ⟨gb824, 5, none⟩) (Kd.S_far (p := ⟨gb824, 4, none⟩) (Kd.S_far (p := ⟨gb824, 3, none⟩) (Kd.S_far (p := ⟨gb824, 2, none⟩) (Kd.S_far (p := ⟨gb824, 1, none⟩) (Kd.S_far (p := ⟨gb824, 0, none⟩) (Kd.S_far (p := ⟨gb823, 1, none⟩) (Kd.S_far (p := ⟨gb823, 0, none⟩) (Kd.S_types (Kd.S_types HO780.out BK823.out (by decide)) BK824.out (by decide)) (fun _ hk => hk.1.2) (.slice Ao39 t811.length co39)) (fun _ hk => hk.1.2) (.int .i64 t814)) (fun _ hk => hk.2) (.int .i64 t801)) (fun _ hk => hk.2) (.int .i64 t802)) (fun _ hk => hk.2) (.int .i64 t803)) (fun _ hk => hk.2) (.int .i64 t804)) (fun _ hk => hk.2) (.bool t805)) (fun _ hk => hk.2) (.bool t806)) (fun _ hk => hk.2) (.bool t807)) (fun _ hk => hk.2) (.bool t808)) (fun _ hk => ⟨hk.1.1.1.1, ⟨hk.1.1.1.2, hk.1.1.2⟩⟩))⟩, ⟨kq (Kd.Q_mono (Kd.Q_far (p := ⟨gb824, 7, none⟩) (Kd.Q_far (p := ⟨gb824, 6, none⟩) (Kd.Q_far (p := ⟨gb824, 5, none⟩) (Kd.Q_far (p := ⟨gb824, 4, none⟩) (Kd.Q_far (p := ⟨gb824, 3, none⟩) (Kd.Q_far (p := ⟨gb824, 2, none⟩) (Kd.Q_far (p := ⟨gb824, 1, none⟩) (Kd.Q_far (p := ⟨gb824, 0, none⟩) (Kd.Q_far (p := ⟨gb823, 1, none⟩) (Kd.Q_far (p := ⟨gb823, 0, none⟩) (Kd.Q_types (Kd.Q_types HO783.out BK823.out (by decide)) BK824.out (by decide)) (fun _ hk => hk.1.2) (.slice Ao39 t811.length co39)) (fun _ hk => hk.1.2) (.int .i64 t814)) (fun _ hk => hk.2) (.int .i64 t801)) (fun _ hk => hk.2) (.int .i64 t802)) (fun _ hk => hk.2) (.int .i64 t803)) (fun _ hk => hk.2) (.int .i64 t804)) (fun _ hk => hk.2) (.bool t805)) (fun _ hk => hk.2) (.bool t806)) (fun _ hk => hk.2) (.bool t807)) (fun _ hk => hk.2) (.bool t808)) (fun _ hk => ⟨hk.1.1.1.2, hk.1.1.2⟩))⟩, ⟨Kd.Q_of_R (kr (Kd.R_mono (Kd.R_far (p := ⟨gb824, 7, none⟩) (Kd.R_far (p := ⟨gb824, 6, none⟩) (Kd.R_far (p := ⟨gb824, 5, none⟩) (Kd.R_far (p := ⟨gb824, 4, none⟩) (Kd.R_far (p := ⟨gb824, 3, none⟩) (Kd.R_far (p := ⟨gb824, 2, none⟩) (Kd.R_far (p := ⟨gb824, 1, none⟩) (Kd.R_far (p := ⟨gb824, 0, none⟩) (Kd.R_far (p := ⟨gb823, 1, none⟩) (Kd.R_far (p := ⟨gb823, 0, none⟩) (Kd.R_types (Kd.R_types HO799.out BK823.out (by decide)) BK824.out (by decide)) (fun _ hk => hk.1.2) (.slice Ao39 t811.length co39)) (fun _ hk => hk.1.2) (.int .i64 t814)) (fun _ hk => hk.2) (.int .i64 t801)) (fun _ hk => hk.2) (.int .i64 t802)) (fun _ hk => hk.2) (.int .i64 t803)) (fun _ hk => hk.2) (.int .i64 t804)) (fun _ hk => hk.2) (.bool t805)) (fun _ hk => hk.2) (.bool t806)) (fun _ hk => hk.2) (.bool t807)) (fun _ hk => hk.2) (.bool t808)) (fun _ hk => ⟨hk.1.1.1.2, hk.1.1.2⟩)))⟩, ⟨Kd.Q_of_R (kr (Kd.R_mono (Kd.R_far (p := ⟨gb824, 7, none⟩) (Kd.R_far (p := ⟨gb824, 6, none⟩) (Kd.R_far (p := ⟨gb824, 5, none⟩) (Kd.R_far (p := ⟨gb824, 4, none⟩) (Kd.R_far (p := ⟨gb824, 3, none⟩) (Kd.R_far (p := ⟨gb824, 2, none⟩) (Kd.R_far (p := ⟨gb824, 1, none⟩) (Kd.R_far (p := ⟨gb824, 0, none⟩) (Kd.R_far (p := ⟨gb823, 1, none⟩) (Kd.R_far (p := ⟨gb823, 0, none⟩) (Kd.R_types (Kd.R_types HO813.out BK823.out (by decide)) BK824.out (by decide)) (fun _ hk => hk.1.2) (.slice Ao39 t811.length co39)) (fun _ hk => hk.1.2) (.int .i64 t814)) (fun _ hk => hk.2) (.int .i64 t801)) (fun _ hk => hk.2) (.int .i64 t802)) (fun _ hk => hk.2) (.int .i64 t803)) (fun _ hk => hk.2) (.int .i64 t804)) (fun _ hk => hk.2) (.bool t805)) (fun _ hk => hk.2) (.bool t806)) (fun _ hk => hk.2) (.bool t807)) (fun _ hk => hk.2) (.bool t808)) (fun _ hk => ⟨hk.1.1.1.2, hk.1.1.2⟩)))⟩, ⟨kf BK794.out⟩, ⟨kf BK795.out⟩, ⟨kf BK796.out⟩, ⟨kf BK809.out⟩, ⟨kf BK810.out⟩, ⟨bf NB823_824 BK823.out⟩, ⟨bf NB824_823 BK824.out⟩, ⟨bw HB.out⟩⟩
  case rest =>
   clear HC7; (try clear c1); (try clear c2); (try clear p2); (try clear c3); (try clear c4); (try clear c5); (try clear c6); (try clear c7); (try clear c8); (try clear c9); (try clear c13); (try clear c14); (try clear c17); (try clear c24); (try clear c25); (try clear c26); (try clear c27); (try clear c29); (try clear c30); (try clear c31); (try clear c40); (try clear c41); (try clear c42); (try clear c43); (try clear c44); (try clear c45); (try clear c47); (try clear c48); (try clear c49); (try clear c50); (try clear c51); (try clear c53); (try clear c53b0); (try clear c54); (try clear c55); (try clear c56); (try clear c57); (try clear c58); (try clear c59); (try clear c61); (try clear c62); (try clear c63); (try clear c64); (try clear c65); (try clear c68); (try clear c69); (try clear c70); (try clear c71); (try clear c72); (try clear c73); (try clear c75); (try clear c76); (try clear c77); (try clear c78); (try clear c79); (try clear c81); (try clear c82); (try clear c83); (try clear c84); (try clear c86); (try clear c87); (try clear c88); (try clear hcz15_0); (try clear hcz18_0); (try clear hcz18_1); (try clear hcz19_0); (try clear hcz19_1); (try clear hcz19_2); (try clear hcz19_3); (try clear hcz19_4); (try clear hcz19_5); (try clear hcz19_6); (try clear hcz19_7); (try clear hcz28_0); (try clear hcz28_1); (try clear hcz32_0); (try clear hcz32_1); (try clear hcz32_2); (try clear hcz32_3); (try clear hcz32_4); (try clear hcz32_5); (try clear hcz32_6); (try clear hcz32_7); (try clear hcz33_0); (try clear hcz34_0); (try clear hcz34_1); (try clear hcz35_0); (try clear hcz35_1); (try clear hcz35_2); (try clear hcz35_3); (try clear hcz35_4); (try clear hcz35_5); (try clear hcz35_6); (try clear hcz35_7); (try clear hcz46_0); (try clear hcz46_1); (try clear hcz52_0); (try clear hcz52_1); (try clear hcz52_2); (try clear hcz52_3); (try clear hcz52_4); (try clear hcz52_5); (try clear hcz52_6); (try clear hcz52_7); (try clear hcz60_0); (try clear hcz60_1); (try clear hcz60_2); (try clear hcz60_3); (try clear hcz60_4); (try clear hcz60_5); (try clear hcz60_6); (try clear hcz60_7); (try clear hcz66_0); (try clear hcz66_1); (try clear hcz66_2); (try clear hcz66_3); (try clear hcz66_4); (try clear hcz66_5); (try clear hcz66_6); (try clear hcz66_7); (try clear hcz74_0); (try clear hcz74_1); (try clear hcz74_2); (try clear hcz74_3); (try clear hcz74_4); (try clear hcz74_5); (try clear hcz74_6); (try clear hcz74_7); (try clear hcz80_0); (try clear hcz80_1); (try clear hcz80_2); (try clear hcz80_3); (try clear hcz80_4); (try clear hcz80_5); (try clear hcz80_6); (try clear hcz80_7); (try clear hcz85_0); (try clear hcz85_1); (try clear hcz89_0); (try clear hcz89_1); (try clear hfz15_0); (try clear hfz18_0); (try clear hfz18_1); (try clear hfz19_0); (try clear hfz19_1); (try clear hfz19_2); (try clear hfz19_3); (try clear hfz19_4); (try clear hfz19_5); (try clear hfz19_6); (try clear hfz19_7); (try clear hfz28_0); (try clear hfz28_1); (try clear hfz32_0); (try clear hfz32_1); (try clear hfz32_2); (try clear hfz32_3); (try clear hfz32_4); (try clear hfz32_5); (try clear hfz32_6); (try clear hfz32_7); (try clear hfz33_0); (try clear hfz34_0); (try clear hfz34_1); (try clear hfz35_0); (try clear hfz35_1); (try clear hfz35_2); (try clear hfz35_3); (try clear hfz35_4); (try clear hfz35_5); (try clear hfz35_6); (try clear hfz35_7); (try clear hfz46_0); (try clear hfz46_1); (try clear hfz52_0); (try clear hfz52_1); (try clear hfz52_2); (try clear hfz52_3); (try clear hfz52_4); (try clear hfz52_5); (try clear hfz52_6); (try clear hfz52_7); (try clear hfz60_0); (try clear hfz60_1); (try clear hfz60_2); (try clear hfz60_3); (try clear hfz60_4); (try clear hfz60_5); (try clear hfz60_6); (try clear hfz60_7); (try clear hfz66_0); (try clear hfz66_1); (try clear hfz66_2); (try clear hfz66_3); (try clear hfz66_4); (try clear hfz66_5); (try clear hfz66_6); (try clear hfz66_7); (try clear hfz74_0); (try clear hfz74_1); (try clear hfz74_2); (try clear hfz74_3); (try clear hfz74_4); (try clear hfz74_5); (try clear hfz74_6); (try clear hfz74_7); (try clear hfz80_0); (try clear hfz80_1); (try clear hfz80_2); (try clear hfz80_3); (try clear hfz80_4); (try clear hfz80_5); (try clear hfz80_6); (try clear hfz80_7); (try clear hfz85_0); (try clear hfz85_1); (try clear hfz89_0); (try clear hfz89_1)
   obtain ⟨kq, x48_6, rfl, HA, HJ6, HO_795000, HO_796000, HO_810000, HO_824000, BK794, BK795, BK796, BK809, BK810, BK823, BK824, HB⟩ := hcut
   cases kq with
   | zero => exact absurd HA.out (by simp [laws_FnEntered.j0])
   | succ kj6 =>
    have H := HA.out
    clear HA
    simp only [laws_FnEntered.j0] at H
    by_cases c90 : x48_6 = true
    ·subst c90
     have H1 : (some false) = some r := by rw [if_pos rfl] at H; exact H
     clear H
     have H := H1
     clear H1
     exact absurd ((Option.some.inj H).trans hrt) (by decide)
    ·replace c90 := Bool.eq_false_iff.mpr c90
     subst c90
     have H1 : ((spec_MemOk.f kj6 t778 t781 t784).bind fun t826 => (if t826 = true then ((spec_CpuOk.f t785 t786 t787 t788 t789 t790 t791 t792).bind fun t827 => (laws_FnEntered.j1 kj6 (!t827) t785 t786 t787 t788 t789 t790 t791 t792 t797 t800 t801 t802 t803 t804 t805 t806 t807 t808)) else (laws_FnEntered.j1 kj6 true t785 t786 t787 t788 t789 t790 t791 t792 t797 t800 t801 t802 t803 t804 t805 t806 t807 t808))) = some r := by rw [if_neg (show ¬ (false = true) by decide)] at H; exact H
     clear H
     have H := H1
     clear H1
     have HC91 := Aside0.mk H
     clear H
     go_upto_region 8 with (fail)
     go_cut [57] (fun v57 wc => ∃ (kq : Nat) (x57_90 : Bool), v57 = .bool x57_90 ∧ Aside0 (laws_FnEntered.j1 kq x57_90 t785 t786 t787 t788 t789 t790 t791 t792 t797 t800 t801 t802 t803 t804 t805 t806 t807 t808 = some r) ∧ Aside0 (kq ≤ kj6) ∧ Aside0 (Kd.S (cutK 3 (Kd.int .i64)) 30 wc w.heap.size (fun k_ => some k_ ≠ ((.slice Ao16 t781.length co16) : Value).ownBlock ∧ some k_ ≠ ((.slice Ao23 t797.length co23) : Value).ownBlock ∧ some k_ ≠ ((.slice Ao39 t811.length co39) : Value).ownBlock) (.slice Ao12 t778.length co12) t778) ∧ Aside0 (Kd.Q (Kd.int .i64) 3 wc w.heap.size (fun k_ => some k_ ≠ ((.slice Ao23 t797.length co23) : Value).ownBlock ∧ some k_ ≠ ((.slice Ao39 t811.length co39) : Value).ownBlock) (.slice Ao16 t781.length co16) t781) ∧ Aside0 (Kd.Q (Kd.int .i64) 3 wc w.heap.size (fun k_ => some k_ ≠ ((.slice Ao16 t781.length co16) : Value).ownBlock ∧ some k_ ≠ ((.slice Ao39 t811.length co39) : Value).ownBlock) (.slice Ao23 t797.length co23) t797) ∧ Aside0 (Kd.Q (Kd.int .i64) 3 wc w.heap.size (fun k_ => some k_ ≠ ((.slice Ao16 t781.length co16) : Value).ownBlock ∧ some k_ ≠ ((.slice Ao23 t797.length co23) : Value).ownBlock) (.slice Ao39 t811.length co39) t811) ∧ Aside0 (wc.heap[gb794]? = some (.cells #[(.slice Ao12 t778.length co12)] 29 (0, 0))) ∧ Aside0 (wc.heap[gb795]? = some (.cells #[(.slice Ao16 t781.length co16), .int .i64 t784] 32 (0, 0))) ∧ Aside0 (wc.heap[gb796]? = some (.cells #[.int .i64 t785, .int .i64 t786, .int .i64 t787, .int .i64 t788, .bool t789, .bool t790, .bool t791, .bool t792] 55 (0, 0))) ∧ Aside0 (wc.heap[gb809]? = some (.cells #[(.slice Ao23 t797.length co23), .int .i64 t800] 32 (0, 0))) ∧ Aside0 (wc.heap[gb810]? = some (.cells #[.int .i64 t801, .int .i64 t802, .int .i64 t803, .int .i64 t804, .bool t805, .bool t806, .bool t807, .bool t808] 55 (0, 0))) ∧ Aside0 (wc.heap[gb823]? = some (.cells #[(.slice Ao39 t811.length co39), .int .i64 t814] 32 (0, 0))) ∧ Aside0 (wc.heap[gb824]? = some (.cells #[.int .i64 t815, .int .i64 t816, .int .i64 t817, .int .i64 t818, .bool t819, .bool t820, .bool t821, .bool t822] 55 (0, 0))) ∧ Aside0 (Below w.heap.size w wc))
     case first =>
      have H := HC91.out
      clear HC91
      replace H := Option.bind_eq_some_iff.mp H
      obtain ⟨t826, A920, H⟩ := H
      replace H : (if t826 = true then ((spec_CpuOk.f t785 t786 t787 t788 t789 t790 t791 t792).bind fun t827 => (laws_FnEntered.j1 kj6 (!t827) t785 t786 t787 t788 t789 t790 t791 t792 t797 t800 t801 t802 t803 t804 t805 t806 t807 t808)) else (laws_FnEntered.j1 kj6 true t785 t786 t787 t788 t789 t790 t791 t792 t797 t800 t801 t802 t803 t804 t805 t806 t807 t808)) = some r := H
      have A92 := Aside0.mk A920
      clear A920
      by_cases c93 : t826 = true
      ·subst c93
       have H1 : ((spec_CpuOk.f t785 t786 t787 t788 t789 t790 t791 t792).bind fun t827 => (laws_FnEntered.j1 kj6 (!t827) t785 t786 t787 t788 t789 t790 t791 t792 t797 t800 t801 t802 t803 t804 t805 t806 t807 t808)) = some r := by rw [if_pos rfl] at H; exact H
       clear H
       have H := H1
       clear H1
       replace H := Option.bind_eq_some_iff.mp H
       obtain ⟨t827, A940, H⟩ := H
       replace H : (laws_FnEntered.j1 kj6 (!t827) t785 t786 t787 t788 t789 t790 t791 t792 t797 t800 t801 t802 t803 t804 t805 t806 t807 t808) = some r := H
       have A94 := Aside0.mk A940
       clear A940
       have H' := Aside0.mk H
       clear H
       have hnb95 := NB794_795.out
       have hnc95 := NB795_794.out
       have hnb96 := NB794_796.out
       have hnc96 := NB796_794.out
       have hnb97 := NB794_809.out
       have hnc97 := NB809_794.out
       have hnb98 := NB794_810.out
       have hnc98 := NB810_794.out
       have hnb99 := NB794_823.out
       have hnc99 := NB823_794.out
       have hnb100 := NB794_824.out
       have hnc100 := NB824_794.out
       have hcz101_0 : wc.cell? ⟨gb794, 0, none⟩ = some (.slice Ao12 t778.length co12) := cl BK794 0
       have hfz101_0 := blk_frozen BK794.out 0
       have hnb102 := NB795_796.out
       have hnc102 := NB796_795.out
       have hnb103 := NB795_809.out
       have hnc103 := NB809_795.out
       have hnb104 := NB795_810.out
       have hnc104 := NB810_795.out
       have hnb105 := NB795_823.out
       have hnc105 := NB823_795.out
       have hnb106 := NB795_824.out
       have hnc106 := NB824_795.out
       obtain ⟨hcz107_0, hcz107_1⟩ := ce2 BK795
       obtain ⟨hfz107_0, hfz107_1⟩ := fz2 BK795
       go_wp2_with (first | ((with_reducible refine gate_callee (f := 33) rfl ?_); refine goesM_ (some 51) rfl rfl Try.func33 #[.agg #[.slice Ao12 t778.length co12], .agg #[.slice Ao16 t781.length co16, .int .i64 t784]] ?_; (with_reducible refine (spec_MemOk.calls kj6 _ _ t778 _ _ t781 t784 true _ ?side1 ?side2 ?side3 ?side4 A92.out).mono ?_); (case side1 => exact kc (Kd.S_reads' HO_795000.out).2.2); (case side2 => exact (Kd.S_reads' HO_795000.out).2.1); (case side3 => exact kc (Kd.Q_reads' HO_796000.out).2.2); (case side4 => exact (Kd.Q_reads' HO_796000.out).2.1); rintro e w108 ⟨rfl, hb⟩; refine ⟨_, rfl, ?_⟩; replace HO_795000 := Aside0.mk (Kd.S_below (ks HO_795000.out) hb); replace HO_796000 := Aside0.mk (Kd.Q_below (kq HO_796000.out) hb); replace HO_810000 := Aside0.mk (Kd.Q_below (kq HO_810000.out) hb); replace HO_824000 := Aside0.mk (Kd.Q_below (kq HO_824000.out) hb); replace BK794 := Aside0.mk (bb BK794 hb); replace BK795 := Aside0.mk (bb BK795 hb); replace BK796 := Aside0.mk (bb BK796 hb); replace BK809 := Aside0.mk (bb BK809 hb); replace BK810 := Aside0.mk (bb BK810 hb); replace BK823 := Aside0.mk (bb BK823 hb); replace BK824 := Aside0.mk (bb BK824 hb); replace HB := Aside0.mk (below_step (bw HB.out) hb); (try clear hb); (try clear hb2); (try clear hk); (try clear hi); have hnb109 := NB796_809.out; have hnc109 := NB809_796.out; have hnb110 := NB796_810.out; have hnc110 := NB810_796.out; have hnb111 := NB796_823.out; have hnc111 := NB823_796.out; have hnb112 := NB796_824.out; have hnc112 := NB824_796.out; obtain ⟨hcz113_0, hcz113_1, hcz113_2, hcz113_3, hcz113_4, hcz113_5, hcz113_6, hcz113_7⟩ := ce8 BK796; have hfz113_0 := blk_frozen BK796.out 0; have hfz113_1 := blk_frozen BK796.out 1; have hfz113_2 := blk_frozen BK796.out 2; have hfz113_3 := blk_frozen BK796.out 3; have hfz113_4 := blk_frozen BK796.out 4; have hfz113_5 := blk_frozen BK796.out 5; have hfz113_6 := blk_frozen BK796.out 6; have hfz113_7 := blk_frozen BK796.out 7) | (go_at_call 50; (with_reducible refine (spec_CpuOk.calls t785 t786 t787 t788 t789 t790 t791 t792 t827 _ A94.out).mono ?_); rintro e w114 ⟨rfl, hb⟩; replace HO_795000 := Aside0.mk (Kd.S_below (ks HO_795000.out) hb); replace HO_796000 := Aside0.mk (Kd.Q_below (kq HO_796000.out) hb); replace HO_810000 := Aside0.mk (Kd.Q_below (kq HO_810000.out) hb); replace HO_824000 := Aside0.mk (Kd.Q_below (kq HO_824000.out) hb); replace BK794 := Aside0.mk (bb BK794 hb); replace BK795 := Aside0.mk (bb BK795 hb); replace BK796 := Aside0.mk (bb BK796 hb); replace BK809 := Aside0.mk (bb BK809 hb); replace BK810 := Aside0.mk (bb BK810 hb); replace BK823 := Aside0.mk (bb BK823 hb); replace BK824 := Aside0.mk (bb BK824 hb); replace HB := Aside0.mk (below_step (bw HB.out) hb); (try clear hb); (try clear hb2); (try clear hk); (try clear hi)))
       go_meet
       case rel => exact ⟨_, (!t827), (by first | rfl | (simp; done) | (simp [*]; done)), H', ⟨by have := HJ6.out; first | omega | exact Nat.le_refl _⟩, ⟨ks HO_795000.out⟩, ⟨kq HO_796000.out⟩, ⟨kq HO_810000.out⟩, ⟨kq HO_824000.out⟩, ⟨kb BK794.out⟩, ⟨kb BK795.out⟩, ⟨kb BK796.out⟩, ⟨kb BK809.out⟩, ⟨kb BK810.out⟩, ⟨kb BK823.out⟩, ⟨kb BK824.out⟩, ⟨bw HB.out⟩⟩
      ·replace c93 := Bool.eq_false_iff.mpr c93
       subst c93
       have H1 : (laws_FnEntered.j1 kj6 true t785 t786 t787 t788 t789 t790 t791 t792 t797 t800 t801 t802 t803 t804 t805 t806 t807 t808) = some r := by rw [if_neg (show ¬ (false = true) by decide)] at H; exact H
       clear H
       have H := H1
       clear H1
       have H' := Aside0.mk H
       clear H
       have hnb115 := NB794_795.out
       have hnc115 := NB795_794.out
       have hnb116 := NB794_796.out
       have hnc116 := NB796_794.out
       have hnb117 := NB794_809.out
       have hnc117 := NB809_794.out
       have hnb118 := NB794_810.out
       have hnc118 := NB810_794.out
       have hnb119 := NB794_823.out
       have hnc119 := NB823_794.out
       have hnb120 := NB794_824.out
       have hnc120 := NB824_794.out
       have hcz121_0 : wc.cell? ⟨gb794, 0, none⟩ = some (.slice Ao12 t778.length co12) := cl BK794 0
       have hfz121_0 := blk_frozen BK794.out 0
       have hnb122 := NB795_796.out
       have hnc122 := NB796_795.out
       have hnb123 := NB795_809.out
       have hnc123 := NB809_795.out
       have hnb124 := NB795_810.out
       have hnc124 := NB810_795.out
       have hnb125 := NB795_823.out
       have hnc125 := NB823_795.out
       have hnb126 := NB795_824.out
       have hnc126 := NB824_795.out
       obtain ⟨hcz127_0, hcz127_1⟩ := ce2 BK795
       obtain ⟨hfz127_0, hfz127_1⟩ := fz2 BK795
       go_wp2_with (first | ((with_reducible refine gate_callee (f := 33) rfl ?_); refine goesM_ (some 51) rfl rfl Try.func33 #[.agg #[.slice Ao12 t778.length co12], .agg #[.slice Ao16 t781.length co16, .int .i64 t784]] ?_; (with_reducible refine (spec_MemOk.calls kj6 _ _ t778 _ _ t781 t784 false _ ?side1 ?side2 ?side3 ?side4 A92.out).mono ?_); (case side1 => exact kc (Kd.S_reads' HO_795000.out).2.2); (case side2 => exact (Kd.S_reads' HO_795000.out).2.1); (case side3 => exact kc (Kd.Q_reads' HO_796000.out).2.2); (case side4 => exact (Kd.Q_reads' HO_796000.out).2.1); rintro e w128 ⟨rfl, hb⟩; refine ⟨_, rfl, ?_⟩; replace HO_795000 := Aside0.mk (Kd.S_below (ks HO_795000.out) hb); replace HO_796000 := Aside0.mk (Kd.Q_below (kq HO_796000.out) hb); replace HO_810000 := Aside0.mk (Kd.Q_below (kq HO_810000.out) hb); replace HO_824000 := Aside0.mk (Kd.Q_below (kq HO_824000.out) hb); replace BK794 := Aside0.mk (bb BK794 hb); replace BK795 := Aside0.mk (bb BK795 hb); replace BK796 := Aside0.mk (bb BK796 hb); replace BK809 := Aside0.mk (bb BK809 hb); replace BK810 := Aside0.mk (bb BK810 hb); replace BK823 := Aside0.mk (bb BK823 hb); replace BK824 := Aside0.mk (bb BK824 hb); replace HB := Aside0.mk (below_step (bw HB.out) hb); (try clear hb); (try clear hb2); (try clear hk); (try clear hi)))
       go_meet
       case rel => exact ⟨_, (true), (by first | rfl | (simp; done) | (simp [*]; done)), H', ⟨by have := HJ6.out; first | omega | exact Nat.le_refl _⟩, ⟨ks HO_795000.out⟩, ⟨kq HO_796000.out⟩, ⟨kq HO_810000.out⟩, ⟨kq HO_824000.out⟩, ⟨kb BK794.out⟩, ⟨kb BK795.out⟩, ⟨kb BK796.out⟩, ⟨kb BK809.out⟩, ⟨kb BK810.out⟩, ⟨kb BK823.out⟩, ⟨kb BK824.out⟩, ⟨bw HB.out⟩⟩
     case rest =>
      clear HC91; (try clear c1); (try clear c2); (try clear p2); (try clear c3); (try clear c4); (try clear c5); (try clear c6); (try clear c7); (try clear c8); (try clear c9); (try clear c10); (try clear c11); (try clear c12); (try clear c13); (try clear c14); (try clear c17); (try clear c24); (try clear c25); (try clear c26); (try clear c27); (try clear c29); (try clear c30); (try clear c31); (try clear c33); (try clear c40); (try clear c41); (try clear c42); (try clear c43); (try clear c44); (try clear c45); (try clear c47); (try clear c48); (try clear c49); (try clear c50); (try clear c51); (try clear c53); (try clear c53b0); (try clear c54); (try clear c55); (try clear c56); (try clear c57); (try clear c58); (try clear c59); (try clear c61); (try clear c62); (try clear c63); (try clear c64); (try clear c65); (try clear c68); (try clear c69); (try clear c70); (try clear c71); (try clear c72); (try clear c73); (try clear c75); (try clear c76); (try clear c77); (try clear c78); (try clear c79); (try clear c81); (try clear c82); (try clear c83); (try clear c84); (try clear c86); (try clear c87); (try clear c88); (try clear c90); (try clear c93); (try clear c95); (try clear c96); (try clear c97); (try clear c98); (try clear c99); (try clear c100); (try clear c102); (try clear c103); (try clear c104); (try clear c105); (try clear c106); (try clear c109); (try clear c110); (try clear c111); (try clear c112); (try clear c115); (try clear c116); (try clear c117); (try clear c118); (try clear c119); (try clear c120); (try clear c122); (try clear c123); (try clear c124); (try clear c125); (try clear c126); (try clear hcz101_0); (try clear hcz107_0); (try clear hcz107_1); (try clear hcz113_0); (try clear hcz113_1); (try clear hcz113_2); (try clear hcz113_3); (try clear hcz113_4); (try clear hcz113_5); (try clear hcz113_6); (try clear hcz113_7); (try clear hcz121_0); (try clear hcz127_0); (try clear hcz127_1); (try clear hcz15_0); (try clear hcz18_0); (try clear hcz18_1); (try clear hcz19_0); (try clear hcz19_1); (try clear hcz19_2); (try clear hcz19_3); (try clear hcz19_4); (try clear hcz19_5); (try clear hcz19_6); (try clear hcz19_7); (try clear hcz28_0); (try clear hcz28_1); (try clear hcz32_0); (try clear hcz32_1); (try clear hcz32_2); (try clear hcz32_3); (try clear hcz32_4); (try clear hcz32_5); (try clear hcz32_6); (try clear hcz32_7); (try clear hcz33_0); (try clear hcz34_0); (try clear hcz34_1); (try clear hcz35_0); (try clear hcz35_1); (try clear hcz35_2); (try clear hcz35_3); (try clear hcz35_4); (try clear hcz35_5); (try clear hcz35_6); (try clear hcz35_7); (try clear hcz46_0); (try clear hcz46_1); (try clear hcz52_0); (try clear hcz52_1); (try clear hcz52_2); (try clear hcz52_3); (try clear hcz52_4); (try clear hcz52_5); (try clear hcz52_6); (try clear hcz52_7); (try clear hcz60_0); (try clear hcz60_1); (try clear hcz60_2); (try clear hcz60_3); (try clear hcz60_4); (try clear hcz60_5); (try clear hcz60_6); (try clear hcz60_7); (try clear hcz66_0); (try clear hcz66_1); (try clear hcz66_2); (try clear hcz66_3); (try clear hcz66_4); (try clear hcz66_5); (try clear hcz66_6); (try clear hcz66_7); (try clear hcz74_0); (try clear hcz74_1); (try clear hcz74_2); (try clear hcz74_3); (try clear hcz74_4); (try clear hcz74_5); (try clear hcz74_6); (try clear hcz74_7); (try clear hcz80_0); (try clear hcz80_1); (try clear hcz80_2); (try clear hcz80_3); (try clear hcz80_4); (try clear hcz80_5); (try clear hcz80_6); (try clear hcz80_7); (try clear hcz85_0); (try clear hcz85_1); (try clear hcz89_0); (try clear hcz89_1); (try clear hfz101_0); (try clear hfz107_0); (try clear hfz107_1); (try clear hfz113_0); (try clear hfz113_1); (try clear hfz113_2); (try clear hfz113_3); (try clear hfz113_4); (try clear hfz113_5); (try clear hfz113_6); (try clear hfz113_7); (try clear hfz121_0); (try clear hfz127_0); (try clear hfz127_1); (try clear hfz15_0); (try clear hfz18_0); (try clear hfz18_1); (try clear hfz19_0); (try clear hfz19_1); (try clear hfz19_2); (try clear hfz19_3); (try clear hfz19_4); (try clear hfz19_5); (try clear hfz19_6); (try clear hfz19_7); (try clear hfz28_0); (try clear hfz28_1); (try clear hfz32_0); (try clear hfz32_1); (try clear hfz32_2); (try clear hfz32_3); (try clear hfz32_4); (try clear hfz32_5); (try clear hfz32_6); (try clear hfz32_7); (try clear hfz33_0); (try clear hfz34_0); (try clear hfz34_1); (try clear hfz35_0); (try clear hfz35_1); (try clear hfz35_2); (try clear hfz35_3); (try clear hfz35_4); (try clear hfz35_5); (try clear hfz35_6); (try clear hfz35_7); (try clear hfz46_0); (try clear hfz46_1); (try clear hfz52_0); (try clear hfz52_1); (try clear hfz52_2); (try clear hfz52_3); (try clear hfz52_4); (try clear hfz52_5); (try clear hfz52_6); (try clear hfz52_7); (try clear hfz60_0); (try clear hfz60_1); (try clear hfz60_2); (try clear hfz60_3); (try clear hfz60_4); (try clear hfz60_5); (try clear hfz60_6); (try clear hfz60_7); (try clear hfz66_0); (try clear hfz66_1); (try clear hfz66_2); (try clear hfz66_3); (try clear hfz66_4); (try clear hfz66_5); (try clear hfz66_6); (try clear hfz66_7); (try clear hfz74_0); (try clear hfz74_1); (try clear hfz74_2); (try clear hfz74_3); (try clear hfz74_4); (try clear hfz74_5); (try clear hfz74_6); (try clear hfz74_7); (try clear hfz80_0); (try clear hfz80_1); (try clear hfz80_2); (try clear hfz80_3); (try clear hfz80_4); (try clear hfz80_5); (try clear hfz80_6); (try clear hfz80_7); (try clear hfz85_0); (try clear hfz85_1); (try clear hfz89_0); (try clear hfz89_1); (try clear p2)
      obtain ⟨kq, x57_90, rfl, HA, HJ90, HO_795000, HO_796000, HO_810000, HO_824000, BK794, BK795, BK796, BK809, BK810, BK823, BK824, HB⟩ := hcut
      cases kq with
      | zero => exact absurd HA.out (by simp [laws_FnEntered.j1])
      | succ kj90 =>
       have H := HA.out
       clear HA
       simp only [laws_FnEntered.j1] at H
       by_cases c129 : x57_90 = true
       ·subst c129
        have H1 : (some t808) = some r := by rw [if_pos rfl] at H; exact H
        clear H
        have H := H1
        clear H1; clear hrt
        obtain rfl := Option.some.inj H
        have hnb130 := NB810_794.out
        have hnc130 := NB794_810.out
        have hnb131 := NB810_795.out
        have hnc131 := NB795_810.out
        have hnb132 := NB810_796.out
        have hnc132 := NB796_810.out
        have hnb133 := NB810_809.out
        have hnc133 := NB809_810.out
        have hnb134 := NB810_823.out
        have hnc134 := NB823_810.out
        have hnb135 := NB810_824.out
        have hnc135 := NB824_810.out
        obtain ⟨hcz136_0, hcz136_1, hcz136_2, hcz136_3, hcz136_4, hcz136_5, hcz136_6, hcz136_7⟩ := ce8 BK810
        obtain ⟨hfz136_0, hfz136_1, hfz136_2, hfz136_3, hfz136_4, hfz136_5, hfz136_6, hfz136_7⟩ := fz8 BK810
        go_wp2
        go_ret
        exact ⟨rt, bw HB.out⟩
       ·replace c129 := Bool.eq_false_iff.mpr c129
        subst c129
        have H1 : ((impl_OpOf.f kj90 (⟨#[114, 116, 105]⟩ : ByteArray)).bind fun t828 => ((impl_Exec.f kj90 t797 t800 t801 t802 t803 t804 t805 t806 t807 t808 t828 0 0).bind fun bt829 => (if t808 = true then ((impl_Byte.f (wrap64 (t787 - 3))).bind fun t843 => (if t803 = t843 then (if bt829.2.2.2.2.2.1 = t788 then (if bt829.2.2.2.2.1 = t787 then ((impl_Flags.f bt829.2.2.1 bt829.2.2.2.1 bt829.2.2.2.2.1 bt829.2.2.2.2.2.1 bt829.2.2.2.2.2.2.1 bt829.2.2.2.2.2.2.2.1 bt829.2.2.2.2.2.2.2.2.1 bt829.2.2.2.2.2.2.2.2.2).bind fun t844 => ((impl_Flags.f t785 t786 t787 t788 t789 t790 t791 t792).bind fun t845 => (if t844 = t845 then (if bt829.2.2.1 = t785 then (some (bt829.2.2.2.1 == t786)) else (some false)) else (some false)))) else (some false)) else (some false)) else (some false))) else (some false)))) = some r := by rw [if_neg (show ¬ (false = true) by decide)] at H; exact H
        clear H
        have H := H1
        clear H1
        replace H := Option.bind_eq_some_iff.mp H
        obtain ⟨t828, A1370, H⟩ := H
        replace H : ((impl_Exec.f kj90 t797 t800 t801 t802 t803 t804 t805 t806 t807 t808 t828 0 0).bind fun bt829 => (if t808 = true then ((impl_Byte.f (wrap64 (t787 - 3))).bind fun t843 => (if t803 = t843 then (if bt829.2.2.2.2.2.1 = t788 then (if bt829.2.2.2.2.1 = t787 then ((impl_Flags.f bt829.2.2.1 bt829.2.2.2.1 bt829.2.2.2.2.1 bt829.2.2.2.2.2.1 bt829.2.2.2.2.2.2.1 bt829.2.2.2.2.2.2.2.1 bt829.2.2.2.2.2.2.2.2.1 bt829.2.2.2.2.2.2.2.2.2).bind fun t844 => ((impl_Flags.f t785 t786 t787 t788 t789 t790 t791 t792).bind fun t845 => (if t844 = t845 then (if bt829.2.2.1 = t785 then (some (bt829.2.2.2.1 == t786)) else (some false)) else (some false)))) else (some false)) else (some false)) else (some false))) else (some false))) = some r := H
        have A137 := Aside0.mk A1370
        clear A1370
        replace H := Option.bind_eq_some_iff.mp H
        obtain ⟨⟨t829, t832, t833, t834, t835, t836, t837, t838, t839, t840⟩, A1380, H⟩ := H
        replace H : (if t808 = true then ((impl_Byte.f (wrap64 (t787 - 3))).bind fun t843 => (if t803 = t843 then (if t836 = t788 then (if t835 = t787 then ((impl_Flags.f t833 t834 t835 t836 t837 t838 t839 t840).bind fun t844 => ((impl_Flags.f t785 t786 t787 t788 t789 t790 t791 t792).bind fun t845 => (if t844 = t845 then (if t833 = t785 then (some (t834 == t786)) else (some false)) else (some false)))) else (some false)) else (some false)) else (some false))) else (some false)) = some r := H
        have A138 := Aside0.mk A1380
        clear A1380
        by_cases c139 : t808 = true
        ·subst c139
         have H1 : ((impl_Byte.f (wrap64 (t787 - 3))).bind fun t843 => (if t803 = t843 then (if t836 = t788 then (if t835 = t787 then ((impl_Flags.f t833 t834 t835 t836 t837 t838 t839 t840).bind fun t844 => ((impl_Flags.f t785 t786 t787 t788 t789 t790 t791 t792).bind fun t845 => (if t844 = t845 then (if t833 = t785 then (some (t834 == t786)) else (some false)) else (some false)))) else (some false)) else (some false)) else (some false))) = some r := by rw [if_pos rfl] at H; exact H
         clear H
         have H := H1
         clear H1
         replace H := Option.bind_eq_some_iff.mp H
         obtain ⟨t843, A1400, H⟩ := H
         replace H : (if t803 = t843 then (if t836 = t788 then (if t835 = t787 then ((impl_Flags.f t833 t834 t835 t836 t837 t838 t839 t840).bind fun t844 => ((impl_Flags.f t785 t786 t787 t788 t789 t790 t791 t792).bind fun t845 => (if t844 = t845 then (if t833 = t785 then (some (t834 == t786)) else (some false)) else (some false)))) else (some false)) else (some false)) else (some false)) = some r := H
         have A140 := Aside0.mk A1400
         clear A1400
         by_cases c141 : t803 = t843
         ·rw [if_pos c141] at H
          have c141b0 : (t803 == t843) = true := beq_iff_eq.mpr c141
          have c141b1 : (t803 != t843) = false := bne_eq_false_iff_eq.mpr c141
          clear c141
          by_cases c142 : t836 = t788
          ·rw [if_pos c142] at H
           have c142b0 : (t836 == t788) = true := beq_iff_eq.mpr c142
           have c142b1 : (t836 != t788) = false := bne_eq_false_iff_eq.mpr c142
           clear c142
           by_cases c143 : t835 = t787
           ·rw [if_pos c143] at H
            have c143b0 : (t835 == t787) = true := beq_iff_eq.mpr c143
            have c143b1 : (t835 != t787) = false := bne_eq_false_iff_eq.mpr c143
            clear c143
            replace H := Option.bind_eq_some_iff.mp H
            obtain ⟨t844, A1440, H⟩ := H
            replace H : ((impl_Flags.f t785 t786 t787 t788 t789 t790 t791 t792).bind fun t845 => (if t844 = t845 then (if t833 = t785 then (some (t834 == t786)) else (some false)) else (some false))) = some r := H
            have A144 := Aside0.mk A1440
            clear A1440
            replace H := Option.bind_eq_some_iff.mp H
            obtain ⟨t845, A1450, H⟩ := H
            replace H : (if t844 = t845 then (if t833 = t785 then (some (t834 == t786)) else (some false)) else (some false)) = some r := H
            have A145 := Aside0.mk A1450
            clear A1450
            by_cases c146 : t844 = t845
            ·rw [if_pos c146] at H
             have c146b0 : (t844 == t845) = true := beq_iff_eq.mpr c146
             have c146b1 : (t844 != t845) = false := bne_eq_false_iff_eq.mpr c146
             clear c146
             by_cases c147 : t833 = t785
             ·rw [if_pos c147] at H
              have c147b0 : (t833 == t785) = true := beq_iff_eq.mpr c147
              have c147b1 : (t833 != t785) = false := bne_eq_false_iff_eq.mpr c147
              clear c147; clear hrt
              obtain rfl := Option.some.inj H
              try go_wp2
              refine free_ (w0 := wc) (n := 12) (e := 10) (g := 7) (T := laws_FnEntered.T10) #[true, true, true, true, true, true, true, true, true, true, false, false] #[true, true, true, true, true, true, true, false, true, true, false, false] [61, 62, 63, 64, 65, 60, 66, 67, 11, 12] (fun j u w' => match j with
               | 0 => u = (.agg #[.slice Ao23 t797.length co23, .int .i64 t800])
               | 1 => u = (.agg #[.int .i64 t801, .int .i64 t802, .int .i64 t803, .int .i64 t804, .bool t805, .bool t806, .bool t807, .bool true])
               | 2 => u = .int .i64 t828
               | 3 => u = .agg #[.int .i64 t828, .int .i64 0]
               | 4 => isPair wc.heap.size t829 t832 (.agg #[.int .i64 t833, .int .i64 t834, .int .i64 t835, .int .i64 t836, .bool t837, .bool t838, .bool t839, .bool t840]) u w'
               | 5 => isPair wc.heap.size t829 t832 (.agg #[.int .i64 t833, .int .i64 t834, .int .i64 t835, .int .i64 t836, .bool t837, .bool t838, .bool t839, .bool t840]) u w'
               | 6 => isMem wc.heap.size t829 t832 u w'
               | 7 => u = (.agg #[.int .i64 t833, .int .i64 t834, .int .i64 t835, .int .i64 t836, .bool t837, .bool t838, .bool t839, .bool t840])
               | 8 => isNew wc.heap.size 32 #[.slice none 0 0, .int .i64 0] u w'
               | 9 => isNew wc.heap.size 55 #[.int .i64 0, .int .i64 0, .int .i64 0, .int .i64 0, .bool false, .bool false, .bool false, .bool false] u w'
               | _ => False)
               (by kernel_rfl) rfl laws_FnEntered.tab10 (by kernel_rfl) (by kernel_rfl) (any_of laws_FnEntered.tab10 (by kernel_rfl)) (fun _ _ _ _ h => h) ?stableg ?stepg ?lagg ?lastg
              case stableg =>
               intro j u W W' h hb
               rcases j with _ | _ | _ | _ | _ | _ | _ | _ | _ | _ | j
               ·exact h
               ·exact h
               ·exact h
               ·exact h
               ·exact isPair_below h hb
               ·exact isPair_below h hb
               ·exact isMem_below h hb
               ·exact h
               ·exact isNew_below h hb
               ·exact isNew_below h hb
               ·exact h
              case stepg =>
               intro i hi o ho a W hB hout hneed K hK
               have HBW := Aside0.mk hB
               have hcase : i = 0 ∨ i = 1 ∨ i = 2 ∨ i = 3 ∨ i = 4 ∨ i = 5 ∨ i = 6 ∨ i = 7 ∨ i = 8 ∨ i = 9 := by omega
               clear hB
               rcases hcase with rfl | rfl | rfl | rfl | rfl | rfl | rfl | rfl | rfl | rfl
               ·obtain rfl := Option.some.inj ho
                have h3' := eval_get (show a.eval (.tmp 7) = .pointer (some ⟨gb809, 0, none⟩) from hout 7 (by decide))
                obtain ⟨d0, d1⟩ := ce2 ⟨blk_below (w := wc.drew) BK809.out HBW.out⟩
                refine value_ (v := (.agg #[.slice Ao23 t797.length co23, .int .i64 t800])) (w1 := W) (by rfl) rfl ?_ (hK.out _ _ (Below.refl _ _) rfl)
                go_simp
               ·obtain rfl := Option.some.inj ho
                have h3' := eval_get (show a.eval (.tmp 8) = .pointer (some ⟨gb810, 0, none⟩) from hout 8 (by decide))
                obtain ⟨d0, d1, d2, d3, d4, d5, d6, d7⟩ := ce8 ⟨blk_below (w := wc.drew) BK810.out HBW.out⟩
                refine value_ (v := (.agg #[.int .i64 t801, .int .i64 t802, .int .i64 t803, .int .i64 t804, .bool t805, .bool t806, .bool t807, .bool true])) (w1 := W) (by rfl) rfl ?_ (hK.out _ _ (Below.refl _ _) rfl)
                go_simp
               ·obtain rfl := Option.some.inj ho
                refine gw_ Try.func51 #[.string (⟨#[114, 116, 105]⟩ : ByteArray)] ?_
                refine (impl_OpOf.calls kj90 (⟨#[114, 116, 105]⟩ : ByteArray) t828 W A137.out).mono ?_
                rintro e w' ⟨rfl, hb⟩
                exact ⟨_, rfl, hK.out _ _ hb rfl⟩
               ·obtain rfl := Option.some.inj ho
                have e0 := eval_get (show a.eval (.tmp 63) = _ from hneed 2 (by decide))
                refine value_ (v := .agg #[.int .i64 t828, .int .i64 0]) (w1 := W) (by rfl) rfl ?_ (hK.out _ _ (Below.refl _ _) rfl)
                go_simp
               ·obtain rfl := Option.some.inj ho
                have eo0 : a.eval (.tmp 61) = _ := hneed 0 (by decide)
                obtain ⟨_, hc0, hC0⟩ := Kd.Q_reads' (Kd.Q_below (w := wc.drew) HO_810000.out HBW.out)
                have eo1 : a.eval (.tmp 62) = _ := hneed 1 (by decide)
                have eo3 : a.eval (.tmp 64) = _ := hneed 3 (by decide)
                refine goes_ Try.func48 (by kernel_rfl) rfl #[(.agg #[.slice Ao23 t797.length co23, .int .i64 t800]), (.agg #[.int .i64 t801, .int .i64 t802, .int .i64 t803, .int .i64 t804, .bool t805, .bool t806, .bool t807, .bool true]), .agg #[.int .i64 t828, .int .i64 0], .int .i64 0] (by rfl) rfl rfl (by simp only [List.map_toArray, List.map_cons, List.map_nil, eo0, eo1, eo3]; rfl) ?_
                refine (impl_Exec.calls kj90 _ _ t797 t800 t801 t802 t803 t804 t805 t806 t807 true t828 0 0 t829 t832 t833 t834 t835 t836 t837 t838 t839 t840 W hC0 hc0 A138.out).mono ?_
                rintro e w' ⟨u, rfl, hR, hb⟩
                exact ⟨_, rfl, hK.out _ _ hb ⟨u, rfl, Kd.R_lower hR HBW.out.size⟩⟩
               ·obtain rfl := Option.some.inj ho
                have e5 : isPair _ _ _ _ (a.eval (.tmp 65)) W := hneed 4 (by decide)
                refine value_ (v := a.eval (.tmp 65)) (w1 := W) (by rfl) rfl rfl (hK.out _ _ (Below.refl _ _) e5)
               ·obtain rfl := Option.some.inj ho
                obtain ⟨u, e6, hR⟩ : isPair _ _ _ _ (a.eval (.tmp 60)) W := hneed 5 (by decide)
                refine value_ (v := .agg #[u, .int .i64 t832]) (w1 := W) (by rfl) rfl ?_ (hK.out _ _ (Below.refl _ _) ⟨u, rfl, hR⟩)
                have e6' := eval_get e6
                go_simp
               ·obtain rfl := Option.some.inj ho
                obtain ⟨u, e6, hR⟩ : isPair _ _ _ _ (a.eval (.tmp 60)) W := hneed 5 (by decide)
                refine value_ (v := (.agg #[.int .i64 t833, .int .i64 t834, .int .i64 t835, .int .i64 t836, .bool t837, .bool t838, .bool t839, .bool t840])) (w1 := W) (by rfl) rfl ?_ (hK.out _ _ (Below.refl _ _) rfl)
                have e6' := eval_get e6
                go_simp
               ·obtain rfl := Option.some.inj ho
                refine value_ (v := .pointer (some ⟨W.heap.size, 0, none⟩)) (w1 := W.alloc (.cells #[.slice none 0 0, .int .i64 0] 32)) (by rfl) rfl ?_ (hK.out _ _ (below_alloc (Below.refl _ _) _) ⟨_, rfl, HBW.out.size, alloc_at _ _ _ rfl⟩)
                go_simp
               ·obtain rfl := Option.some.inj ho
                refine value_ (v := .pointer (some ⟨W.heap.size, 0, none⟩)) (w1 := W.alloc (.cells #[.int .i64 0, .int .i64 0, .int .i64 0, .int .i64 0, .bool false, .bool false, .bool false, .bool false] 55)) (by rfl) rfl ?_ (hK.out _ _ (below_alloc (Below.refl _ _) _) ⟨_, rfl, HBW.out.size, alloc_at _ _ _ rfl⟩)
                go_simp
              case lagg =>
               intro o ho a W hout hneed
               obtain rfl := Option.some.inj ho
               obtain ⟨u, e6, hR⟩ : isPair _ _ _ _ (a.eval (.tmp 60)) W := hneed 5 (by decide)
               refine ⟨(.agg #[.int .i64 t833, .int .i64 t834, .int .i64 t835, .int .i64 t836, .bool t837, .bool t838, .bool t839, .bool t840]), rfl, Or.inl ⟨by rfl, ?_⟩⟩
               intro w'
               have e6' := eval_get e6
               go_simp
              case lastg =>
               intro f vs W6 hB hE
               have HBW := Aside0.mk hB
               clear hB
               have q0 : vs 0 = _ := hE 0 (by decide)
               have q1 : vs 1 = _ := hE 1 (by decide)
               have q2 : vs 2 = _ := hE 2 (by decide)
               have q3 : vs 3 = _ := hE 3 (by decide)
               obtain ⟨u4g, q4, _⟩ : isPair _ _ _ _ (vs 4) W6 := hE 4 (by decide)
               obtain ⟨u5g, q5, _⟩ : isPair _ _ _ _ (vs 5) W6 := hE 5 (by decide)
               obtain ⟨u6g, q6, hR6⟩ : isMem _ _ _ (vs 6) W6 := hE 6 (by decide)
               have q7 : vs 7 = _ := hE 7 (by decide)
               obtain ⟨gb841, q8, hg1, hb1⟩ : isNew _ _ _ (vs 8) W6 := hE 8 (by decide)
               obtain ⟨gb842, q9, hg2, hb2⟩ : isNew _ _ _ (vs 9) W6 := hE 9 (by decide)
               show wpAnyLast _ _ _ _ _ _ (f + 2) _ (putAll _ [(61, vs 0), (62, vs 1), (63, vs 2), (64, vs 3), (65, vs 4), (60, vs 5), (66, vs 6), (67, vs 7), (11, vs 8), (12, vs 9)]) W6
               rw [q0, q1, q2, q3, q4, q5, q6, q7, q8, q9]
               clear q0 q1 q2 q3 q4 q5 q6 q7 q8 q9 hE
               refine norm_ (a' := ?_) ?_ ?_
               rotate_left
               ·simp only [putAll, Act.put, List.setIfInBounds_toArray, List.set_cons_zero, List.set_cons_succ]
                rfl
               obtain ⟨Ag, cg, rfl⟩ := Kd.R_slice hR6
               have hgg : gb841 ≠ gb842 := blk_ne hb1 hb2 (by decide)
               have hgg' : gb842 ≠ gb841 := fun h => hgg h.symm
               have X1 := Aside0.mk hb1
               have X2 := Aside0.mk hb2
               clear hb1 hb2
               refine one_ (i := 10) (N := none) #[true, true, true, true, true, true, true, true, true, true, true, false] rfl rfl (one_of laws_FnEntered.tab10 (by kernel_rfl)) (by decide) (fun K hK => ?_)
               refine skip_ (w1 := ?_) (by rfl) rfl ?_ ?_
               rotate_left
               ·obtain ⟨r0, r1⟩ := ce2 X1
                obtain ⟨f0, f1⟩ := fz2 X1
                go_simp
                rfl
               refine hK.out _ _ trivial (fun _ => ?_)
               clear hK K
               refine one_ (i := 11) (N := none) #[true, true, true, true, true, true, true, true, true, true, true, true] rfl rfl (one_of laws_FnEntered.tab10 (by kernel_rfl)) (by decide) (fun K hK => ?_)
               refine skip_ (w1 := ?_) (by rfl) rfl ?_ ?_
               rotate_left
               ·obtain ⟨r0, r1, r2, r3, r4, r5, r6, r7⟩ := ce8 X2
                obtain ⟨f0, f1, f2, f3, f4, f5, f6, f7⟩ := fz8 X2
                go_simp
                rfl
               refine hK.out _ _ trivial (fun _ => ?_)
               clear hK K
               refine done_ (done_of laws_FnEntered.tab10 (by kernel_rfl)) ?_
               obtain ⟨s1, s2, _, _, s5⟩ := stored X1.out X2.out (.slice Ag t829.length cg) (.int .i64 t832) (.int .i64 t833) (.int .i64 t834) (.int .i64 t835) (.int .i64 t836) (.bool t837) (.bool t838) (.bool t839) (.bool t840)
               have hz := HB.out.size
               have hb := s5 wc.drew HBW.out hg1 hg2
               have hd := s5 w (below_step (w := w) (W := wc.drew) (below_drew1 HB.out) HBW.out) (by omega) (by omega)
               clear s5 X1 X2 hR6 HBW hg1 hg2 hz hgg hgg'
               generalize ((((((((((W6.setCell ⟨gb841, 0, none⟩ (.slice Ag t829.length cg)).setCell ⟨gb841, 1, none⟩ (.int .i64 t832)).setCell ⟨gb842, 0, none⟩ (.int .i64 t833)).setCell ⟨gb842, 1, none⟩ (.int .i64 t834)).setCell ⟨gb842, 2, none⟩ (.int .i64 t835)).setCell ⟨gb842, 3, none⟩ (.int .i64 t836)).setCell ⟨gb842, 4, none⟩ (.bool t837)).setCell ⟨gb842, 5, none⟩ (.bool t838)).setCell ⟨gb842, 6, none⟩ (.bool t839)).setCell ⟨gb842, 7, none⟩ (.bool t840)) = w165 at *
               replace BK794 := Aside0.mk (blk_below (w := wc.drew) BK794.out hb)
               replace BK795 := Aside0.mk (blk_below (w := wc.drew) BK795.out hb)
               replace BK796 := Aside0.mk (blk_below (w := wc.drew) BK796.out hb)
               replace BK809 := Aside0.mk (blk_below (w := wc.drew) BK809.out hb)
               replace BK810 := Aside0.mk (blk_below (w := wc.drew) BK810.out hb)
               replace BK823 := Aside0.mk (blk_below (w := wc.drew) BK823.out hb)
               replace BK824 := Aside0.mk (blk_below (w := wc.drew) BK824.out hb)
               replace HB := Aside0.mk hd
               have BK841 := Aside0.mk s1
               have BK842 := Aside0.mk s2
               clear s1 s2 hd hb
               try go_wp2
               replace BK794 := Aside0.mk (blk_drew BK794.out)
               replace BK795 := Aside0.mk (blk_drew BK795.out)
               replace BK796 := Aside0.mk (blk_drew BK796.out)
               replace BK809 := Aside0.mk (blk_drew BK809.out)
               replace BK810 := Aside0.mk (blk_drew BK810.out)
               replace BK823 := Aside0.mk (blk_drew BK823.out)
               replace BK824 := Aside0.mk (blk_drew BK824.out)
               replace BK841 := Aside0.mk (blk_drew BK841.out)
               replace BK842 := Aside0.mk (blk_drew BK842.out)
               replace HB := Aside0.mk (below_drew1 HB.out)
               refine start_ (n := 47) (S := fun w' => w'.cell? ⟨gb810, 0, none⟩ = some (.int .i64 t801) ∧ w'.cell? ⟨gb810, 1, none⟩ = some (.int .i64 t802) ∧ w'.cell? ⟨gb810, 2, none⟩ = some (.int .i64 t803) ∧ w'.cell? ⟨gb810, 3, none⟩ = some (.int .i64 t804) ∧ w'.cell? ⟨gb810, 4, none⟩ = some (.bool t805) ∧ w'.cell? ⟨gb810, 5, none⟩ = some (.bool t806) ∧ w'.cell? ⟨gb810, 6, none⟩ = some (.bool t807) ∧ w'.cell? ⟨gb810, 7, none⟩ = some (.bool true) ∧ w'.cell? ⟨gb796, 0, none⟩ = some (.int .i64 t785) ∧ w'.cell? ⟨gb796, 1, none⟩ = some (.int .i64 t786) ∧ w'.cell? ⟨gb796, 2, none⟩ = some (.int .i64 t787) ∧ w'.cell? ⟨gb796, 3, none⟩ = some (.int .i64 t788) ∧ w'.cell? ⟨gb796, 4, none⟩ = some (.bool t789) ∧ w'.cell? ⟨gb796, 5, none⟩ = some (.bool t790) ∧ w'.cell? ⟨gb796, 6, none⟩ = some (.bool t791) ∧ w'.cell? ⟨gb796, 7, none⟩ = some (.bool t792) ∧ w'.cell? ⟨gb842, 0, none⟩ = some (.int .i64 t833) ∧ w'.cell? ⟨gb842, 1, none⟩ = some (.int .i64 t834) ∧ w'.cell? ⟨gb842, 2, none⟩ = some (.int .i64 t835) ∧ w'.cell? ⟨gb842, 3, none⟩ = some (.int .i64 t836) ∧ w'.cell? ⟨gb842, 4, none⟩ = some (.bool t837) ∧ w'.cell? ⟨gb842, 5, none⟩ = some (.bool t838) ∧ w'.cell? ⟨gb842, 6, none⟩ = some (.bool t839) ∧ w'.cell? ⟨gb842, 7, none⟩ = some (.bool t840)) (ds := []) (bm 47 0) (by kernel_rfl) rfl (by kernel_rfl) ⟨cl BK810 0, cl BK810 1, cl BK810 2, cl BK810 3, cl BK810 4, cl BK810 5, cl BK810 6, cl BK810 7, cl BK796 0, cl BK796 1, cl BK796 2, cl BK796 3, cl BK796 4, cl BK796 5, cl BK796 6, cl BK796 7, cl BK842 0, cl BK842 1, cl BK842 2, cl BK842 3, cl BK842 4, cl BK842 5, cl BK842 6, cl BK842 7⟩ (fun hHeld => ?_); refine with_tabW laws_FnEntered.tab11 laws_FnEntered.bits11 (fun HT_ HW_ => ?_)
               generalize w165.drew = w166 at BK794 BK795 BK796 BK809 BK810 BK823 BK824 BK841 BK842 HB hHeld ⊢
               refine pw_ 0 (some 68) (bm 47 1) HT_ ?_
               refine tw_ 1 (some 69) (bm 47 3) HT_ HW_ hHeld ?_
               refine pw_ 2 (some 70) (bm 47 7) HT_ ?_
               refine pw_ 3 (some 71) (bm 47 15) HT_ ?_
               refine pw_ 5 (some 73) (bm 47 47) HT_ ?_
               refine tw_ 4 (some 72) (bm 47 63) HT_ HW_ hHeld ?_
               refine tw_ 6 (some 74) (bm 47 127) HT_ HW_ hHeld ?_
               refine pw_ 7 (some 75) (bm 47 255) HT_ ?_
               refine ow_ 8 (some 76) (bm 47 511) HT_ (fun K hK => ?_)
               refine gw_ Try.func34 #[.int .i64 (wrap64 (t787 - 3))] ?_
               with_reducible refine (impl_Byte.calls (wrap64 (t787 - 3)) t843 _ A140.out).mono ?_
               rintro e w' ⟨rfl, ⟨nd, rfl⟩⟩
               refine ⟨_, rfl, ?_⟩
               replace BK794 := Aside0.mk (blk_drewN BK794.out nd)
               replace BK795 := Aside0.mk (blk_drewN BK795.out nd)
               replace BK796 := Aside0.mk (blk_drewN BK796.out nd)
               replace BK809 := Aside0.mk (blk_drewN BK809.out nd)
               replace BK810 := Aside0.mk (blk_drewN BK810.out nd)
               replace BK823 := Aside0.mk (blk_drewN BK823.out nd)
               replace BK824 := Aside0.mk (blk_drewN BK824.out nd)
               replace BK841 := Aside0.mk (blk_drewN BK841.out nd)
               replace BK842 := Aside0.mk (blk_drewN BK842.out nd)
               replace HB := Aside0.mk (pw_below_drewN HB.out nd)
               generalize w166.drewN nd = w166 at BK794 BK795 BK796 BK809 BK810 BK823 BK824 BK841 BK842 HB ⊢
               refine hK.out _ _ ⟨cl BK810 0, cl BK810 1, cl BK810 2, cl BK810 3, cl BK810 4, cl BK810 5, cl BK810 6, cl BK810 7, cl BK796 0, cl BK796 1, cl BK796 2, cl BK796 3, cl BK796 4, cl BK796 5, cl BK796 6, cl BK796 7, cl BK842 0, cl BK842 1, cl BK842 2, cl BK842 3, cl BK842 4, cl BK842 5, cl BK842 6, cl BK842 7⟩ (fun hHeld => ?_)
               clear hK K
               refine nw_ 76 ?_
               refine pw_ 9 (some 77) (bm 47 1023) HT_ ?_
               refine pw_ 10 (some 78) (bm 47 2047) HT_ ?_
               refine pw_ 11 (some 79) (bm 47 4095) HT_ ?_
               refine pw_ 12 (some 80) (bm 47 8191) HT_ ?_
               refine pw_ 14 (some 82) (bm 47 24575) HT_ ?_
               refine tw_ 13 (some 81) (bm 47 32767) HT_ HW_ hHeld ?_
               refine tw_ 15 (some 83) (bm 47 65535) HT_ HW_ hHeld ?_
               refine pw_ 16 (some 84) (bm 47 131071) HT_ ?_
               refine pw_ 17 (some 85) (bm 47 262143) HT_ ?_
               refine pw_ 18 (some 86) (bm 47 524287) HT_ ?_
               refine pw_ 19 (some 87) (bm 47 1048575) HT_ ?_
               refine pw_ 21 (some 89) (bm 47 3145727) HT_ ?_
               refine tw_ 20 (some 88) (bm 47 4194303) HT_ HW_ hHeld ?_
               refine tw_ 22 (some 90) (bm 47 8388607) HT_ HW_ hHeld ?_
               refine pw_ 23 (some 91) (bm 47 16777215) HT_ ?_
               refine pw_ 24 (some 92) (bm 47 33554431) HT_ ?_
               refine pw_ 25 (some 93) (bm 47 67108863) HT_ ?_
               refine tw_ 26 (some 94) (bm 47 134217727) HT_ HW_ hHeld ?_
               refine tw_ 28 (some 96) (bm 47 402653183) HT_ HW_ hHeld ?_
               refine ow_ 27 (some 95) (bm 47 536870911) HT_ (fun K hK => ?_)
               refine gw_ Try.func56 #[.agg #[.int .i64 t833, .int .i64 t834, .int .i64 t835, .int .i64 t836, .bool t837, .bool t838, .bool t839, .bool t840]] ?_
               with_reducible refine (impl_Flags.calls t833 t834 t835 t836 t837 t838 t839 t840 t844 _ A144.out).mono ?_
               rintro e w167 ⟨rfl, hb⟩
               refine ⟨_, rfl, ?_⟩
               replace BK794 := Aside0.mk (bb BK794 hb)
               replace BK795 := Aside0.mk (bb BK795 hb)
               replace BK796 := Aside0.mk (bb BK796 hb)
               replace BK809 := Aside0.mk (bb BK809 hb)
               replace BK810 := Aside0.mk (bb BK810 hb)
               replace BK823 := Aside0.mk (bb BK823 hb)
               replace BK824 := Aside0.mk (bb BK824 hb)
               replace BK841 := Aside0.mk (bb BK841 hb)
               replace BK842 := Aside0.mk (bb BK842 hb)
               replace HB := Aside0.mk (below_step (bw HB.out) hb)
               (try clear hb); (try clear hb2); (try clear hk); (try clear hi)
               refine hK.out _ _ ⟨cl BK810 0, cl BK810 1, cl BK810 2, cl BK810 3, cl BK810 4, cl BK810 5, cl BK810 6, cl BK810 7, cl BK796 0, cl BK796 1, cl BK796 2, cl BK796 3, cl BK796 4, cl BK796 5, cl BK796 6, cl BK796 7, cl BK842 0, cl BK842 1, cl BK842 2, cl BK842 3, cl BK842 4, cl BK842 5, cl BK842 6, cl BK842 7⟩ (fun hHeld => ?_)
               clear hK K
               refine nw_ 95 ?_
               refine ow_ 29 (some 97) (bm 47 1073741823) HT_ (fun K hK => ?_)
               refine gw_ Try.func56 #[.agg #[.int .i64 t785, .int .i64 t786, .int .i64 t787, .int .i64 t788, .bool t789, .bool t790, .bool t791, .bool t792]] ?_
               with_reducible refine (impl_Flags.calls t785 t786 t787 t788 t789 t790 t791 t792 t845 _ A145.out).mono ?_
               rintro e w168 ⟨rfl, hb⟩
               refine ⟨_, rfl, ?_⟩
               replace BK794 := Aside0.mk (bb BK794 hb)
               replace BK795 := Aside0.mk (bb BK795 hb)
               replace BK796 := Aside0.mk (bb BK796 hb)
               replace BK809 := Aside0.mk (bb BK809 hb)
               replace BK810 := Aside0.mk (bb BK810 hb)
               replace BK823 := Aside0.mk (bb BK823 hb)
               replace BK824 := Aside0.mk (bb BK824 hb)
               replace BK841 := Aside0.mk (bb BK841 hb)
               replace BK842 := Aside0.mk (bb BK842 hb)
               replace HB := Aside0.mk (below_step (bw HB.out) hb)
               (try clear hb); (try clear hb2); (try clear hk); (try clear hi)
               refine hK.out _ _ ⟨cl BK810 0, cl BK810 1, cl BK810 2, cl BK810 3, cl BK810 4, cl BK810 5, cl BK810 6, cl BK810 7, cl BK796 0, cl BK796 1, cl BK796 2, cl BK796 3, cl BK796 4, cl BK796 5, cl BK796 6, cl BK796 7, cl BK842 0, cl BK842 1, cl BK842 2, cl BK842 3, cl BK842 4, cl BK842 5, cl BK842 6, cl BK842 7⟩ (fun hHeld => ?_)
               clear hK K
               refine nw_ 97 ?_
               refine pw_ 30 (some 98) (bm 47 2147483647) HT_ ?_
               refine pw_ 31 (some 99) (bm 47 4294967295) HT_ ?_
               refine pw_ 32 (some 100) (bm 47 8589934591) HT_ ?_
               refine pw_ 33 (some 101) (bm 47 17179869183) HT_ ?_
               refine pw_ 35 (some 103) (bm 47 51539607551) HT_ ?_
               refine tw_ 34 (some 102) (bm 47 68719476735) HT_ HW_ hHeld ?_
               refine tw_ 36 (some 104) (bm 47 137438953471) HT_ HW_ hHeld ?_
               refine pw_ 37 (some 105) (bm 47 274877906943) HT_ ?_
               refine pw_ 38 (some 106) (bm 47 549755813887) HT_ ?_
               refine pw_ 39 (some 107) (bm 47 1099511627775) HT_ ?_
               refine pw_ 40 (some 108) (bm 47 2199023255551) HT_ ?_
               refine pw_ 42 (some 110) (bm 47 6597069766655) HT_ ?_
               refine tw_ 41 (some 109) (bm 47 8796093022207) HT_ HW_ hHeld ?_
               refine tw_ 43 (some 111) (bm 47 17592186044415) HT_ HW_ hHeld ?_
               refine pw_ 44 (some 112) (bm 47 35184372088831) HT_ ?_
               refine pw_ 45 (some 113) (bm 47 70368744177663) HT_ ?_
               refine pw_ 46 (some 2) (bm 47 140737488355327) HT_ ?_
               refine done_ (done_of HT_.out (by kernel_rfl)) ?_
               try go_wp2
               go_ret
               exact ⟨rt, bw HB.out⟩
             ·rw [if_neg c147] at H
              have c147b0 : (t833 == t785) = false := beq_eq_false_iff_ne.mpr c147
              have c147b1 : (t833 != t785) = true := bne_iff_ne.mpr c147
              exact absurd ((Option.some.inj H).trans hrt) (by decide)
            ·rw [if_neg c146] at H
             have c146b0 : (t844 == t845) = false := beq_eq_false_iff_ne.mpr c146
             have c146b1 : (t844 != t845) = true := bne_iff_ne.mpr c146
             exact absurd ((Option.some.inj H).trans hrt) (by decide)
           ·rw [if_neg c143] at H
            have c143b0 : (t835 == t787) = false := beq_eq_false_iff_ne.mpr c143
            have c143b1 : (t835 != t787) = true := bne_iff_ne.mpr c143
            exact absurd ((Option.some.inj H).trans hrt) (by decide)
          ·rw [if_neg c142] at H
           have c142b0 : (t836 == t788) = false := beq_eq_false_iff_ne.mpr c142
           have c142b1 : (t836 != t788) = true := bne_iff_ne.mpr c142
           exact absurd ((Option.some.inj H).trans hrt) (by decide)
         ·rw [if_neg c141] at H
          have c141b0 : (t803 == t843) = false := beq_eq_false_iff_ne.mpr c141
          have c141b1 : (t803 != t843) = true := bne_iff_ne.mpr c141
          exact absurd ((Option.some.inj H).trans hrt) (by decide)
        ·replace c139 := Bool.eq_false_iff.mpr c139
         subst c139
         have H1 : (some false) = some r := by rw [if_neg (show ¬ (false = true) by decide)] at H; exact H
         clear H
         have H := H1
         clear H1
         exact absurd ((Option.some.inj H).trans hrt) (by decide)

end Go.Proofs.Ytmkccgbfgebfbaa.MFnEntered
