/- Walks of functions that the law FnFetched reaches: each comes to just what its Lean function says. (Begun as the texts that print.sh wrote for this claim; some of them, and those that it does not write, are mine.) No condition. -/
import Derived.Test.YtmkccgbfgebfbaaMFnFetchedx6
namespace Go.Proofs.Ytmkccgbfgebfbaa.MFnFetched
open Go.RowKit Go.Proofs.YtmkccgbfgebfbaaW.PrintWords Go.Proofs.YtmkccgbfgebfbaaW.PrintLast Go.Proofs.YtmkccgbfgebfbaaW.PrintMore
attribute [local go_sem] max2_int min2_int max_two min_two max_three min_three max_four min_four   -- for this text's walks alone
set_option linter.unusedVariables false
set_option linter.unusedSimpArgs false

/-! ### laws_FnFetched: function 6 -/
mutual
def laws_FnFetched.j0 : Nat → List Int → Int → Bool → List (List Int) → List Int → Int → Int → Int → Option (Bool)
 | 0, _, _, _, _, _, _, _, _ => none
 | k + 1, x0, x5, x44, x649000, x650000, x650001, x653000, x653001 => if x44 = true then (some false) else ((impl_OpLen.f k x653000).bind fun t656 => (if t656 = 1 then (if x653001 = 0 then (if t656 = 2 then ((impl_Peek.f k x649000 x650000 x650001 (wrap64 (x5 + 1))).bind fun t657 => (if x653001 = t657 then (if t656 = 3 then ((impl_Peek.f k x649000 x650000 x650001 (wrap64 (x5 + 1))).bind fun t658 => ((impl_Peek.f k x649000 x650000 x650001 (wrap64 (x5 + 2))).bind fun t659 => ((impl_Join.f t658 t659).bind fun t660 => (laws_FnFetched.j1 k x0 (x653001 != t660))))) else (laws_FnFetched.j1 k x0 false)) else (laws_FnFetched.j1 k x0 true))) else (if t656 = 3 then ((impl_Peek.f k x649000 x650000 x650001 (wrap64 (x5 + 1))).bind fun t661 => ((impl_Peek.f k x649000 x650000 x650001 (wrap64 (x5 + 2))).bind fun t662 => ((impl_Join.f t661 t662).bind fun t663 => (laws_FnFetched.j1 k x0 (x653001 != t663))))) else (laws_FnFetched.j1 k x0 false))) else (laws_FnFetched.j1 k x0 true)) else (if t656 = 2 then ((impl_Peek.f k x649000 x650000 x650001 (wrap64 (x5 + 1))).bind fun t664 => (if x653001 = t664 then (if t656 = 3 then ((impl_Peek.f k x649000 x650000 x650001 (wrap64 (x5 + 1))).bind fun t665 => ((impl_Peek.f k x649000 x650000 x650001 (wrap64 (x5 + 2))).bind fun t666 => ((impl_Join.f t665 t666).bind fun t667 => (laws_FnFetched.j1 k x0 (x653001 != t667))))) else (laws_FnFetched.j1 k x0 false)) else (laws_FnFetched.j1 k x0 true))) else (if t656 = 3 then ((impl_Peek.f k x649000 x650000 x650001 (wrap64 (x5 + 1))).bind fun t668 => ((impl_Peek.f k x649000 x650000 x650001 (wrap64 (x5 + 2))).bind fun t669 => ((impl_Join.f t668 t669).bind fun t670 => (laws_FnFetched.j1 k x0 (x653001 != t670))))) else (laws_FnFetched.j1 k x0 false)))))
def laws_FnFetched.j1 : Nat → List Int → Bool → Option (Bool)
 | 0, _, _ => none
 | k + 1, x0, x88 => if x88 = true then (some false) else ((spec_DrawAccess.f k x0).bind fun bt671 => ((impl_Access.f k bt671.1 bt671.2.1 bt671.2.2.1 bt671.2.2.2.1 bt671.2.2.2.2.1 bt671.2.2.2.2.2.1 bt671.2.2.2.2.2.2.1 bt671.2.2.2.2.2.2.2.1 bt671.2.2.2.2.2.2.2.2.1 bt671.2.2.2.2.2.2.2.2.2).bind fun bt683 => ((spec_Access.f k bt671.1 bt671.2.1 bt671.2.2.1 bt671.2.2.2.1 bt671.2.2.2.2.1 bt671.2.2.2.2.2.1 bt671.2.2.2.2.2.2.1 bt671.2.2.2.2.2.2.2.1 bt671.2.2.2.2.2.2.2.2.1 bt671.2.2.2.2.2.2.2.2.2).bind fun bt686 => ((spec_DrawCpuNew.f k x0).bind fun t689 => ((impl_CpuNew.f k t689).bind fun bt693 => (if bt683.1 = bt686.1 then (if bt683.2.1 = bt686.2.1 then (if bt683.2.2 = bt686.2.2 then ((impl_OpAccess.f k bt671.1).bind fun t702 => (if bt683.1 = t702 then (if bt683.2.1 ≥ 0 then (if bt683.2.1 ≤ 65535 then (if bt683.1 = 2 then ((spec_CpuNew.f k t689).bind fun bt703 => (if (bt693.1 == bt703.1 && (bt693.2.1 == bt703.2.1 && (bt693.2.2.1 == bt703.2.2.1 && (bt693.2.2.2.1 == bt703.2.2.2.1 && (bt693.2.2.2.2.1 == bt703.2.2.2.2.1 && (bt693.2.2.2.2.2.1 == bt703.2.2.2.2.2.1 && (bt693.2.2.2.2.2.2.1 == bt703.2.2.2.2.2.2.1 && (bt693.2.2.2.2.2.2.2 == bt703.2.2.2.2.2.2.2)))))))) = true then (if bt693.2.2.1 = 255 then (some bt693.2.2.2.2.2.2.2) else (some false)) else (some false))) else (if bt683.2.2 = 0 then ((spec_CpuNew.f k t689).bind fun bt711 => (if (bt693.1 == bt711.1 && (bt693.2.1 == bt711.2.1 && (bt693.2.2.1 == bt711.2.2.1 && (bt693.2.2.2.1 == bt711.2.2.2.1 && (bt693.2.2.2.2.1 == bt711.2.2.2.2.1 && (bt693.2.2.2.2.2.1 == bt711.2.2.2.2.2.1 && (bt693.2.2.2.2.2.2.1 == bt711.2.2.2.2.2.2.1 && (bt693.2.2.2.2.2.2.2 == bt711.2.2.2.2.2.2.2)))))))) = true then (if bt693.2.2.1 = 255 then (some bt693.2.2.2.2.2.2.2) else (some false)) else (some false))) else (some false))) else (some false)) else (some false)) else (some false))) else (some false)) else (some false)) else (some false)))))))
end
def laws_FnFetched.f (k : Nat) (l0 : List Int) : Option (Bool) := (laws_big.f l0).bind fun t639 => (if t639 = true then (some true) else ((spec_DrawFetch.f k l0).bind fun bt640 => ((impl_Fetch.f k bt640.1 bt640.2.1 bt640.2.2.1 bt640.2.2.2).bind fun bt650 => ((spec_Fetch.f k bt640.1 bt640.2.1 bt640.2.2.1 bt640.2.2.2).bind fun bt653 => (if (!(bt650.1 == bt653.1) || (!(bt650.2 == bt653.2))) = true then (laws_FnFetched.j0 k l0 bt640.2.2.2 true bt640.1 bt640.2.1 bt640.2.2.1 bt650.1 bt650.2) else ((impl_Peek.f k bt640.1 bt640.2.1 bt640.2.2.1 bt640.2.2.2).bind fun t655 => (laws_FnFetched.j0 k l0 bt640.2.2.2 (bt650.1 != t655) bt640.1 bt640.2.1 bt640.2.2.1 bt650.1 bt650.2)))))))
def laws_FnFetched.T5 : Bool × List (List Nat × List Nat) := (true, [([], []), ([], []), ([], []), ([], []), ([1, 2, 3], [1, 2, 3]), ([0, 4], [0, 4]), ([5, 4], [5]), ([6], [6]), ([7, 6], [6, 7]), ([6], [6]), ([6], [6]), ([6], [6]), ([9, 10, 11, 6, 6], [6, 9, 10, 11]), ([8, 12, 6], [6, 8, 12]), ([6, 13], [6, 13])])
def laws_FnFetched.B5 : List Nat := [0, 0, 0, 0, 14, 31, 63, 127, 255, 127, 127, 127, 3711, 8191, 16383]
theorem laws_FnFetched.tab5 : rtab .any (opsOf Try.f6 5) = laws_FnFetched.T5 := by kernel_rfl
theorem laws_FnFetched.bits5 : waitsOk laws_FnFetched.T5.2 laws_FnFetched.B5 = true := by kernel_rfl
def laws_FnFetched.T8 : Bool × List (List Nat × List Nat) := (true, [([], []), ([0], [0]), ([1], [1]), ([2], [2]), ([3, 2], [2, 3]), ([4, 2], [2, 4]), ([2, 5], [2, 5]), ([6, 2], [6]), ([7], [7]), ([8, 7], [7, 8]), ([9, 7, 7], [7, 9]), ([10], [10]), ([11, 10], [10, 11]), ([10], [10]), ([10], [10]), ([10], [10]), ([15, 10], [10, 15]), ([13, 14, 16, 10, 10], [10, 13, 14, 16]), ([12, 17, 10], [10, 12, 17]), ([10, 18, 7], [7, 10, 18]), ([7, 19], [7, 19]), ([20, 17], [20]), ([21], [21]), ([22, 21], [21, 22]), ([23, 21, 21], [21, 23]), ([24], [24]), ([25, 24], [24, 25]), ([24], [24]), ([24], [24]), ([24], [24]), ([29, 24], [24, 29]), ([27, 28, 30, 24, 24], [24, 27, 28, 30]), ([24], [24]), ([24], [24]), ([24], [24]), ([34, 24], [24, 34]), ([32, 33, 35, 31, 24], [24, 32, 33, 35]), ([31, 36, 36, 24], [24, 31, 36]), ([26, 37, 24], [24, 26, 37]), ([24, 38, 21], [21, 24, 38]), ([21, 39], [21, 39])])
def laws_FnFetched.B8 : List Nat := [0, 1, 3, 7, 15, 31, 63, 127, 255, 511, 1023, 2047, 4095, 2047, 2047, 2047, 34815, 124927, 262143, 524287, 1048575, 2097151, 4194303, 8388607, 16777215, 33554431, 67108863, 33554431, 33554431, 33554431, 570425343, 2046820351, 33554431, 33554431, 33554431, 17213423615, 68618813439, 137338290175, 274877906943, 549755813887, 1099511627775]
theorem laws_FnFetched.tab8 : rtab .any (opsOf Try.f6 8) = laws_FnFetched.T8 := by kernel_rfl
theorem laws_FnFetched.bits8 : waitsOk laws_FnFetched.T8.2 laws_FnFetched.B8 = true := by kernel_rfl
def laws_FnFetched.T15 : Bool × List (List Nat × List Nat) := (true, [([], []), ([], []), ([0, 1], [0, 1]), ([2], [2]), ([3], [3]), ([3], [3]), ([4, 5, 3], [3, 4, 5]), ([3, 6], [3, 6]), ([7, 3], [7]), ([8], [8]), ([8], [8]), ([9, 10, 8], [8, 9, 10]), ([8, 11], [8, 11]), ([12, 8], [12]), ([13], [13]), ([13], [13]), ([15, 13], [13, 15]), ([16, 13, 13], [13, 16]), ([14, 17, 13], [13, 14, 17]), ([13, 18], [13, 18]), ([19, 17], [19]), ([20], [20]), ([21, 20], [20, 21]), ([20, 22], [20, 22]), ([23, 20], [23]), ([24], [24]), ([25, 24], [24, 25]), ([24, 26], [24, 26]), ([27, 24], [27]), ([28], [28]), ([29, 28], [28, 29]), ([30, 28, 28], [28, 30]), ([31], [31]), ([32, 31], [31, 32]), ([31, 33, 28], [28, 31, 33]), ([28, 34], [28, 34]), ([35, 31], [35]), ([36], [36]), ([36], [36]), ([38, 36, 36], [36, 38]), ([37, 39, 36], [36, 37, 39]), ([36, 40], [36, 40]), ([41, 39], [41]), ([42], [42]), ([43, 42], [42, 43]), ([44, 42], [42, 44]), ([42, 45], [42, 45]), ([46, 42], [46]), ([47], [47]), ([48, 47], [47, 48]), ([47, 49], [47, 49]), ([50, 47, 0, 1, 2, 3, 4, 5, 6, 7, 8, 9, 10, 11, 12, 13, 14, 15, 16, 17, 18, 19, 20, 21, 22, 23, 24, 25, 26, 27, 28, 29, 30, 31, 32, 33, 34, 35, 36, 37, 38, 39, 40, 41, 42, 43, 44, 45, 46, 47, 48, 49, 50], [50])])
def laws_FnFetched.B15 : List Nat := [0, 0, 3, 7, 15, 15, 63, 127, 255, 511, 511, 2047, 4095, 8191, 16383, 16383, 49151, 114687, 262143, 524287, 1048575, 2097151, 4194303, 8388607, 16777215, 33554431, 67108863, 134217727, 268435455, 536870911, 1073741823, 2147483647, 4294967295, 8589934591, 17179869183, 34359738367, 68719476735, 137438953471, 137438953471, 412316860415, 1099511627775, 2199023255551, 4398046511103, 8796093022207, 17592186044415, 35184372088831, 70368744177663, 140737488355327, 281474976710655, 562949953421311, 1125899906842623, 2251799813685247]
theorem laws_FnFetched.tab15 : rtab .any (opsOf Try.f6 15) = laws_FnFetched.T15 := by kernel_rfl
theorem laws_FnFetched.bits15 : waitsOk laws_FnFetched.T15.2 laws_FnFetched.B15 = true := by kernel_rfl
set_option maxHeartbeats 8000000 in
set_option maxRecDepth 100000 in
theorem laws_FnFetched.calls (k : Nat) (A0 : Option Addr) (c0 : Nat) (l0 : List Int) (r : Bool) (w : World) (hr0 : Kd.C (Kd.int .u8) w A0 l0.length l0) (hc0 : l0.length ≤ c0) (h : laws_FnFetched.f k l0 = some r) (hrt : r = true) :
  Calls Try.prog 6 #[.slice A0 l0.length c0] w fun e w' => e = .returned (.bool r) ∧ Below w.heap.size w w' := by
 have hu29 := Try.underlying29
 have hu32 := Try.underlying32
 have hu51 := Try.underlying51
 have hu55 := Try.underlying55
 have HR0 := Aside0.mk hr0
 have HC0 := Aside0.mk hc0
 clear hr0 hc0
 have HB := Aside0.mk (Below.refl w.heap.size w)
 have H : ((laws_big.f l0).bind fun t639 => (if t639 = true then (some true) else ((spec_DrawFetch.f k l0).bind fun bt640 => ((impl_Fetch.f k bt640.1 bt640.2.1 bt640.2.2.1 bt640.2.2.2).bind fun bt650 => ((spec_Fetch.f k bt640.1 bt640.2.1 bt640.2.2.1 bt640.2.2.2).bind fun bt653 => (if (!(bt650.1 == bt653.1) || (!(bt650.2 == bt653.2))) = true then (laws_FnFetched.j0 k l0 bt640.2.2.2 true bt640.1 bt640.2.1 bt640.2.2.1 bt650.1 bt650.2) else ((impl_Peek.f k bt640.1 bt640.2.1 bt640.2.2.1 bt640.2.2.2).bind fun t655 => (laws_FnFetched.j0 k l0 bt640.2.2.2 (bt650.1 != t655) bt640.1 bt640.2.1 bt640.2.2.1 bt650.1 bt650.2)))))))) = some r := h
 clear h
 replace H := Option.bind_eq_some_iff.mp H
 obtain ⟨t639, A20, H⟩ := H
 replace H : (if t639 = true then (some true) else ((spec_DrawFetch.f k l0).bind fun bt640 => ((impl_Fetch.f k bt640.1 bt640.2.1 bt640.2.2.1 bt640.2.2.2).bind fun bt650 => ((spec_Fetch.f k bt640.1 bt640.2.1 bt640.2.2.1 bt640.2.2.2).bind fun bt653 => (if (!(bt650.1 == bt653.1) || (!(bt650.2 == bt653.2))) = true then (laws_FnFetched.j0 k l0 bt640.2.2.2 true bt640.1 bt640.2.1 bt640.2.2.1 bt650.1 bt650.2) else ((impl_Peek.f k bt640.1 bt640.2.1 bt640.2.2.1 bt640.2.2.2).bind fun t655 => (laws_FnFetched.j0 k l0 bt640.2.2.2 (bt650.1 != t655) bt640.1 bt640.2.1 bt640.2.2.1 bt650.1 bt650.2))))))) = some r := H
 have A2 := Aside0.mk A20
 clear A20
 by_cases c3 : t639 = true
 ·subst c3
  have H1 : (some true) = some r := by rw [if_pos rfl] at H; exact H
  clear H
  have H := H1
  clear H1
  obtain rfl := Option.some.inj H
  go_enter Try.func6, Try.ntmps6
  go_wp2_with (first | ((with_reducible refine gate_callee (f := 9) rfl ?_); refine goesM_ (some 19) rfl rfl Try.func9 #[.slice A0 l0.length c0] ?_; (with_reducible refine (laws_big.calls _ _ l0 true _ ?side1 ?side2 A2.out).mono ?_); (case side1 => exact kc HR0.out); (case side2 => exact HC0.out); rintro e w' ⟨rfl, ⟨nd, rfl⟩⟩; refine ⟨_, rfl, ?_⟩))
  go_ret
  exact ⟨rt, bw HB.out⟩
 ·replace c3 := Bool.eq_false_iff.mpr c3
  subst c3
  have H1 : ((spec_DrawFetch.f k l0).bind fun bt640 => ((impl_Fetch.f k bt640.1 bt640.2.1 bt640.2.2.1 bt640.2.2.2).bind fun bt650 => ((spec_Fetch.f k bt640.1 bt640.2.1 bt640.2.2.1 bt640.2.2.2).bind fun bt653 => (if (!(bt650.1 == bt653.1) || (!(bt650.2 == bt653.2))) = true then (laws_FnFetched.j0 k l0 bt640.2.2.2 true bt640.1 bt640.2.1 bt640.2.2.1 bt650.1 bt650.2) else ((impl_Peek.f k bt640.1 bt640.2.1 bt640.2.2.1 bt640.2.2.2).bind fun t655 => (laws_FnFetched.j0 k l0 bt640.2.2.2 (bt650.1 != t655) bt640.1 bt640.2.1 bt640.2.2.1 bt650.1 bt650.2)))))) = some r := by rw [if_neg (show ¬ (false = true) by decide)] at H; exact H
  clear H
  have H := H1
  clear H1
  replace H := Option.bind_eq_some_iff.mp H
  obtain ⟨⟨t640, t643, t646, t647⟩, A40, H⟩ := H
  replace H : ((impl_Fetch.f k t640 t643 t646 t647).bind fun bt650 => ((spec_Fetch.f k t640 t643 t646 t647).bind fun bt653 => (if (!(bt650.1 == bt653.1) || (!(bt650.2 == bt653.2))) = true then (laws_FnFetched.j0 k l0 t647 true t640 t643 t646 bt650.1 bt650.2) else ((impl_Peek.f k t640 t643 t646 t647).bind fun t655 => (laws_FnFetched.j0 k l0 t647 (bt650.1 != t655) t640 t643 t646 bt650.1 bt650.2))))) = some r := H
  have A4 := Aside0.mk A40
  clear A40
  replace H := Option.bind_eq_some_iff.mp H
  obtain ⟨⟨t650, t651⟩, A50, H⟩ := H
  replace H : ((spec_Fetch.f k t640 t643 t646 t647).bind fun bt653 => (if (!(t650 == bt653.1) || (!(t651 == bt653.2))) = true then (laws_FnFetched.j0 k l0 t647 true t640 t643 t646 t650 t651) else ((impl_Peek.f k t640 t643 t646 t647).bind fun t655 => (laws_FnFetched.j0 k l0 t647 (t650 != t655) t640 t643 t646 t650 t651)))) = some r := H
  have A5 := Aside0.mk A50
  clear A50
  have HC6 := Aside0.mk H
  clear H
  go_enter Try.func6, Try.ntmps6
  go_upto_region 5 with (first | ((with_reducible refine gate_callee (f := 9) rfl ?_); refine goesM_ (some 19) rfl rfl Try.func9 #[.slice A0 l0.length c0] ?_; (with_reducible refine (laws_big.calls _ _ l0 false _ ?side1 ?side2 A2.out).mono ?_); (case side1 => exact kc HR0.out); (case side2 => exact HC0.out); rintro e w' ⟨rfl, ⟨nd, rfl⟩⟩; refine ⟨_, rfl, ?_⟩) | ((with_reducible refine gate_callee (f := 35) rfl ?_); refine goesM_ (some 22) rfl rfl Try.func35 #[.slice A0 l0.length c0] ?_; (with_reducible refine (spec_DrawFetch.calls k _ _ l0 t640 t643 t646 t647 _ ?side1 ?side2 A4.out).mono ?_); (case side1 => exact kc HR0.out); (case side2 => exact HC0.out); rintro e w7 ⟨v641, v644, rfl, ho0, ho1, hb⟩; refine ⟨_, rfl, ?_⟩; have n0_ := Aside0.mk (Kd.S_lower ho0 (below_size (bw HB.out))); have n1_ := Aside0.mk (Kd.Q_lower ho1 (below_size (bw HB.out))); have n2_ := Aside0.mk (below_step (bw HB.out) hb); clear HB; have HO642 := n0_; have HO645 := n1_; have HB := n2_; clear n0_ n1_ n2_; (try clear hb); (try clear hb2); (try clear hk); (try clear hi); (try clear ho0); (try clear ho1)) | ((with_reducible refine gate_dst (N := 3) rfl ?_); refine bx (N := 3) (cs := #[.slice none 0 0]) (t := 29) ?_; intro gb648 hg w8 hbox hb; have n0_ := Aside0.mk (Kd.S_below (ks HO642.out) hb); have n1_ := Aside0.mk (Kd.Q_below (kq HO645.out) hb); have n2_ := Aside0.mk (below_step (bw HB.out) hb); have n3_ := Aside0.mk (hbox); have n4_ := Aside0.mk ((gs hg (bw HB.out))); have n5_ := Aside0.mk ((gs hg (bw HB.out))); clear HO642; clear HO645; clear HB; have HO642 := n0_; have HO645 := n1_; have HB := n2_; have BK648 := n3_; have GW648 := n4_; have GE648 := n5_; clear n0_ n1_ n2_ n3_ n4_ n5_; clear hb hbox hg) | ((with_reducible refine gate_dst (N := 4) rfl ?_); refine bx (N := 4) (cs := #[.slice none 0 0, .int .i64 0]) (t := 32) ?_; intro gb649 hg w9 hbox hb; have n0_ := Aside0.mk (Kd.S_below (ks HO642.out) hb); have n1_ := Aside0.mk (Kd.Q_below (kq HO645.out) hb); have n2_ := Aside0.mk (blk_below (g := gb648) (o := .cells #[.slice none 0 0] 29 (0, 0)) (kb BK648.out) hb); have n3_ := Aside0.mk (below_step (bw HB.out) hb); have n4_ := Aside0.mk (hbox); have n5_ := Aside0.mk ((gs hg (bw HB.out))); have n6_ := Aside0.mk ((gs hg (bw HB.out))); have n7_ := Aside0.mk ((ga hg BK648.out)); have n8_ := Aside0.mk ((gc hg BK648.out)); clear HO642; clear HO645; clear BK648; clear HB; have HO642 := n0_; have HO645 := n1_; have BK648 := n2_; have HB := n3_; have BK649 := n4_; have GW649 := n5_; have GE649 := n6_; have NB648_649 := n7_; have NB649_648 := n8_; clear n0_ n1_ n2_ n3_ n4_ n5_ n6_ n7_ n8_; clear hb hbox hg; obtain ⟨Ao10, co10, eo10⟩ := Kd.S_slice HO642.out; subst eo10; have hnb11 := NB648_649.out; have hnc11 := NB649_648.out; have hcz12_0 : w9.cell? ⟨gb648, 0, none⟩ = some (.slice none 0 0) := cl BK648 0; have hfz12_0 := blk_frozen BK648.out 0; obtain ⟨Ao13, co13, eo13, _⟩ := Kd.Q_slice HO645.out; subst eo13; have hcz14_0 : w9.cell? ⟨gb649, 0, none⟩ = some (.slice none 0 0) := cl BK649 0; have hcz14_1 : w9.cell? ⟨gb649, 1, none⟩ = some (.int .i64 0) := cl BK649 1; have hfz14_0 := blk_frozen BK649.out 0; have hfz14_1 := blk_frozen BK649.out 1) | ((with_reducible refine gate_callee (f := 36) rfl ?_); refine goesM_ (some 29) rfl rfl Try.func36 #[.agg #[.slice Ao10 t640.length co10], .agg #[.slice Ao13 t643.length co13, .int .i64 t646], .int .i64 t647] ?_; (with_reducible refine (impl_Fetch.calls k _ _ t640 _ _ t643 t646 t647 t650 t651 _ ?side1 ?side2 ?side3 ?side4 A5.out).mono ?_); (case side1 => refine (Kd.S_reads' (d := cutK 3 (Kd.int .i64)) (e := 30) (base := w.heap.size) (ok := fun k_ => some k_ ≠ (.slice Ao13 t643.length co13 : Value).ownBlock) (n := t640.length) (c := co10) ?_).2.2; exact (ks ((Kd.S_mono (Kd.S_mono (Kd.S_far (p := ⟨gb649, 1, none⟩) (Kd.S_far (p := ⟨gb649, 0, none⟩) (Kd.S_far (p := ⟨gb648, 0, none⟩) (Kd.S_types (Kd.S_types HO642.out BK648.out (by decide)) BK649.out (by decide)) (fun _ hk => hk.1.2) (.slice Ao10 t640.length co10)) (fun _ hk => hk.2) (.slice Ao13 t643.length co13)) (fun _ hk => hk.2) (.int .i64 t646)) (fun _ h_ => h_.1)) (fun _ h_ => h_.1))))); (case side2 => exact (Kd.S_reads' HO642.out).2.1); (case side3 => refine (Kd.Q_reads' (e := 3) (base := w.heap.size) (ok := fun k_ => True) (n := t643.length) (c := co13) ?_).2.2; exact (kq ((Kd.Q_mono (Kd.Q_mono (Kd.Q_far (p := ⟨gb649, 1, none⟩) (Kd.Q_far (p := ⟨gb649, 0, none⟩) (Kd.Q_far (p := ⟨gb648, 0, none⟩) (Kd.Q_types (Kd.Q_types HO645.out BK648.out (by decide)) BK649.out (by decide)) (fun _ hk => hk.1.2) (.slice Ao10 t640.length co10)) (fun _ hk => hk.2) (.slice Ao13 t643.length co13)) (fun _ hk => hk.2) (.int .i64 t646)) (fun _ h_ => h_.1)) (fun _ h_ => h_.1))))); (case side4 => exact (Kd.Q_reads' HO645.out).2.1); rintro e w15 ⟨rfl, hb⟩; refine ⟨_, rfl, ?_⟩; have n0_ := Aside0.mk (Kd.S_below (ks ((Kd.S_mono (Kd.S_mono (Kd.S_far (p := ⟨gb649, 1, none⟩) (Kd.S_far (p := ⟨gb649, 0, none⟩) (Kd.S_far (p := ⟨gb648, 0, none⟩) (Kd.S_types (Kd.S_types HO642.out BK648.out (by decide)) BK649.out (by decide)) (fun _ hk => hk.1.2) (.slice Ao10 t640.length co10)) (fun _ hk => hk.2) (.slice Ao13 t643.length co13)) (fun _ hk => hk.2) (.int .i64 t646)) (fun _ h_ => h_.1)) (fun _ h_ => h_.1)))) hb); have n1_ := Aside0.mk (Kd.Q_below (kq ((Kd.Q_mono (Kd.Q_mono (Kd.Q_far (p := ⟨gb649, 1, none⟩) (Kd.Q_far (p := ⟨gb649, 0, none⟩) (Kd.Q_far (p := ⟨gb648, 0, none⟩) (Kd.Q_types (Kd.Q_types HO645.out BK648.out (by decide)) BK649.out (by decide)) (fun _ hk => hk.1.2) (.slice Ao10 t640.length co10)) (fun _ hk => hk.2) (.slice Ao13 t643.length co13)) (fun _ hk => hk.2) (.int .i64 t646)) (fun _ h_ => h_.1)) (fun _ h_ => h_.1)))) hb); have n2_ := Aside0.mk (blk_below (g := gb648) (o := .cells #[.slice Ao10 t640.length co10] 29 (0, 0)) (by (with_reducible repeat (first | refine blk_drewN ?_ _ | refine blk_drew ?_ | refine blk_alloc ?_ _)); refine blk_far ?_ NB648_649.out _; (with_reducible repeat (first | refine blk_drewN ?_ _ | refine blk_drew ?_ | refine blk_alloc ?_ _)); refine blk_far ?_ NB648_649.out _; (with_reducible repeat (first | refine blk_drewN ?_ _ | refine blk_drew ?_ | refine blk_alloc ?_ _)); refine blk_put (cs := #[.slice none 0 0]) ?_ 0 _ rfl; (with_reducible repeat (first | refine blk_drewN ?_ _ | refine blk_drew ?_ | refine blk_alloc ?_ _)); exact BK648.out) hb); have n3_ := Aside0.mk (blk_below (g := gb649) (o := .cells #[.slice Ao13 t643.length co13, .int .i64 t646] 32 (0, 0)) (by (with_reducible repeat (first | refine blk_drewN ?_ _ | refine blk_drew ?_ | refine blk_alloc ?_ _)); refine blk_put (cs := #[.slice Ao13 t643.length co13, .int .i64 0]) ?_ 1 _ rfl; (with_reducible repeat (first | refine blk_drewN ?_ _ | refine blk_drew ?_ | refine blk_alloc ?_ _)); refine blk_put (cs := #[.slice none 0 0, .int .i64 0]) ?_ 0 _ rfl; (with_reducible repeat (first | refine blk_drewN ?_ _ | refine blk_drew ?_ | refine blk_alloc ?_ _)); refine blk_far ?_ NB649_648.out _; (with_reducible repeat (first | refine blk_drewN ?_ _ | refine blk_drew ?_ | refine blk_alloc ?_ _)); exact BK649.out) hb); have n4_ := Aside0.mk (below_step (bw HB.out) hb); clear HO642; clear HO645; clear BK648; clear BK649; clear HB; have HO642 := n0_; have HO645 := n1_; have BK648 := n2_; have BK649 := n3_; have HB := n4_; clear n0_ n1_ n2_ n3_ n4_; (try clear hb); (try clear hb2); (try clear hk); (try clear hi)) | ((with_reducible refine gate_dst (N := 6) rfl ?_); refine bx (N := 6) (cs := #[.int .i64 0, .int .i64 0]) (t := 51) ?_; intro gb652 hg w16 hbox hb; have n0_ := Aside0.mk (Kd.S_below (ks HO642.out) hb); have n1_ := Aside0.mk (Kd.Q_below (kq HO645.out) hb); have n2_ := Aside0.mk (blk_below (g := gb648) (o := .cells #[.slice Ao10 t640.length co10] 29 (0, 0)) (kb BK648.out) hb); have n3_ := Aside0.mk (blk_below (g := gb649) (o := .cells #[.slice Ao13 t643.length co13, .int .i64 t646] 32 (0, 0)) (kb BK649.out) hb); have n4_ := Aside0.mk (below_step (bw HB.out) hb); have n5_ := Aside0.mk (hbox); have n6_ := Aside0.mk ((gs hg (bw HB.out))); have n7_ := Aside0.mk ((gs hg (bw HB.out))); have n8_ := Aside0.mk ((ga hg BK648.out)); have n9_ := Aside0.mk ((gc hg BK648.out)); have n10_ := Aside0.mk ((ga hg BK649.out)); have n11_ := Aside0.mk ((gc hg BK649.out)); clear HO642; clear HO645; clear BK648; clear BK649; clear HB; have HO642 := n0_; have HO645 := n1_; have BK648 := n2_; have BK649 := n3_; have HB := n4_; have BK652 := n5_; have GW652 := n6_; have GE652 := n7_; have NB648_652 := n8_; have NB652_648 := n9_; have NB649_652 := n10_; have NB652_649 := n11_; clear n0_ n1_ n2_ n3_ n4_ n5_ n6_ n7_ n8_ n9_ n10_ n11_; clear hb hbox hg; have hnb17 := NB652_648.out; have hnc17 := NB648_652.out; have hnb18 := NB652_649.out; have hnc18 := NB649_652.out; have hcz19_0 : w16.cell? ⟨gb652, 0, none⟩ = some (.int .i64 0) := cl BK652 0; have hcz19_1 : w16.cell? ⟨gb652, 1, none⟩ = some (.int .i64 0) := cl BK652 1; have hfz19_0 := blk_frozen BK652.out 0; have hfz19_1 := blk_frozen BK652.out 1))
  (try simp only [Act.put, List.setIfInBounds_toArray, List.set_cons_zero, List.set_cons_succ])
  go_cut [44] (fun v44 wc => ∃ (kq : Nat) (x44_5 : Bool), v44 = .bool x44_5 ∧ Aside0 (laws_FnFetched.j0 kq l0 t647 x44_5 t640 t643 t646 t650 t651 = some r) ∧ Aside0 (kq ≤ k) ∧ Aside0 (Kd.S (cutK 3 (Kd.int .i64)) 30 wc w.heap.size (fun k_ => some k_ ≠ ((.slice Ao13 t643.length co13) : Value).ownBlock) (.slice Ao10 t640.length co10) t640) ∧ Aside0 (Kd.Q (Kd.int .i64) 3 wc w.heap.size (fun _ => True) (.slice Ao13 t643.length co13) t643) ∧ Aside0 (wc.heap[gb648]? = some (.cells #[(.slice Ao10 t640.length co10)] 29 (0, 0))) ∧ Aside0 (wc.heap[gb649]? = some (.cells #[(.slice Ao13 t643.length co13), .int .i64 t646] 32 (0, 0))) ∧ Aside0 (wc.heap[gb652]? = some (.cells #[.int .i64 t650, .int .i64 t651] 51 (0, 0))) ∧ Aside0 (Below w.heap.size w wc))
  case first =>
   have H := HC6.out
   clear HC6
   replace H := Option.bind_eq_some_iff.mp H
   obtain ⟨⟨t653, t654⟩, A200, H⟩ := H
   replace H : (if (!(t650 == t653) || (!(t651 == t654))) = true then (laws_FnFetched.j0 k l0 t647 true t640 t643 t646 t650 t651) else ((impl_Peek.f k t640 t643 t646 t647).bind fun t655 => (laws_FnFetched.j0 k l0 t647 (t650 != t655) t640 t643 t646 t650 t651))) = some r := H
   have A20 := Aside0.mk A200
   clear A200
   by_cases c21 : (!(t650 == t653) || (!(t651 == t654))) = true
   ·rw [if_pos c21] at H
    have c21b0 : (!(t650 == t653) || (!(t651 == t654))) = true := c21
    clear c21
    (first | rw [c21b0] | (simp only [i64_w, i32_w]; rw [c21b0]) | skip)
    exact absurd (show r = false by first | (cases k with | zero => (simp [laws_FnFetched.j0] at H; done) | succ k_ => (simp [laws_FnFetched.j0] at H; (first | exact H | exact H.symm))) | (cases kj31 with | zero => (simp [laws_FnFetched.j0] at H; done) | succ k_ => (simp [laws_FnFetched.j0] at H; (first | exact H | exact H.symm))) | (cases kj5 with | zero => (simp [laws_FnFetched.j0] at H; done) | succ k_ => (simp [laws_FnFetched.j0] at H; (first | exact H | exact H.symm)))) (by rw [hrt]; decide)
   ·rw [if_neg c21] at H
    have c21b0 : (!(t650 == t653) || (!(t651 == t654))) = false := by simpa using c21
    have q_ : t650 = t653 ∧ t651 = t654 := by simpa using c21b0
    clear c21b0
    obtain ⟨rfl, rfl⟩ := q_
    clear c21
    skip
    replace H := Option.bind_eq_some_iff.mp H
    obtain ⟨t655, A250, H⟩ := H
    replace H : (laws_FnFetched.j0 k l0 t647 (t650 != t655) t640 t643 t646 t650 t651) = some r := H
    have A25 := Aside0.mk A250
    clear A250
    have H' := Aside0.mk H
    clear H
    try go_wp2
    have n0_ : Aside0 (Kd.S (cutK 3 (Kd.int .i64)) 30 ((w16.setCell ⟨gb652, 0, none⟩ (.int .i64 t650)).setCell ⟨gb652, 1, none⟩ (.int .i64 t651)) w.heap.size (fun k_ => some k_ ≠ (.slice Ao13 t643.length co13 : Value).ownBlock) (.slice Ao10 t640.length co10) t640) := ⟨ks (Kd.S_mono (Kd.S_far (p := ⟨gb652, 1, none⟩) (Kd.S_far (p := ⟨gb652, 0, none⟩) (Kd.S_types HO642.out BK652.out (by decide)) (fun _ hk => hk.2) (.int .i64 t650)) (fun _ hk => hk.2) (.int .i64 t651)) (fun _ hk => hk.1))⟩
    have n1_ : Aside0 (Kd.Q (Kd.int .i64) 3 ((w16.setCell ⟨gb652, 0, none⟩ (.int .i64 t650)).setCell ⟨gb652, 1, none⟩ (.int .i64 t651)) w.heap.size (fun _ => True) (.slice Ao13 t643.length co13) t643) := ⟨kq (Kd.Q_mono (Kd.Q_far (p := ⟨gb652, 1, none⟩) (Kd.Q_far (p := ⟨gb652, 0, none⟩) (Kd.Q_types HO645.out BK652.out (by decide)) (fun _ hk => hk.2) (.int .i64 t650)) (fun _ hk => hk.2) (.int .i64 t651)) (fun _ hk => trivial))⟩
    have n2_ : Aside0 (((w16.setCell ⟨gb652, 0, none⟩ (.int .i64 t650)).setCell ⟨gb652, 1, none⟩ (.int .i64 t651)).heap[gb648]? = some (.cells #[.slice Ao10 t640.length co10] 29 (0, 0))) := ⟨kf BK648.out⟩
    have n3_ : Aside0 (((w16.setCell ⟨gb652, 0, none⟩ (.int .i64 t650)).setCell ⟨gb652, 1, none⟩ (.int .i64 t651)).heap[gb649]? = some (.cells #[.slice Ao13 t643.length co13, .int .i64 t646] 32 (0, 0))) := ⟨kf BK649.out⟩
    have n4_ : Aside0 (((w16.setCell ⟨gb652, 0, none⟩ (.int .i64 t650)).setCell ⟨gb652, 1, none⟩ (.int .i64 t651)).heap[gb652]? = some (.cells #[.int .i64 t650, .int .i64 t651] 51 (0, 0))) := ⟨by (with_reducible repeat (first | refine blk_drewN ?_ _ | refine blk_drew ?_ | refine blk_alloc ?_ _)); refine blk_put (cs := #[.int .i64 t650, .int .i64 0]) ?_ 1 _ rfl; (with_reducible repeat (first | refine blk_drewN ?_ _ | refine blk_drew ?_ | refine blk_alloc ?_ _)); refine blk_put (cs := #[.int .i64 0, .int .i64 0]) ?_ 0 _ rfl; (with_reducible repeat (first | refine blk_drewN ?_ _ | refine blk_drew ?_ | refine blk_alloc ?_ _)); exact BK652.out⟩
    have n5_ : Aside0 (Below w.heap.size w ((w16.setCell ⟨gb652, 0, none⟩ (.int .i64 t650)).setCell ⟨gb652, 1, none⟩ (.int .i64 t651))) := ⟨bw HB.out⟩
    (try clear HO642); (try clear HO645); (try clear BK648); (try clear BK649); (try clear BK652); (try clear HB)
    generalize ((w16.setCell ⟨gb652, 0, none⟩ (.int .i64 t650)).setCell ⟨gb652, 1, none⟩ (.int .i64 t651)) = w26 at n0_ n1_ n2_ n3_ n4_ n5_ ⊢
    have HO642 := n0_; have HO645 := n1_; have BK648 := n2_; have BK649 := n3_; have BK652 := n4_; have HB := n5_; clear n0_ n1_ n2_ n3_ n4_ n5_
    have n0_ := Aside0.mk (Kd.S_drew HO642.out)
    have n1_ := Aside0.mk (Kd.Q_drew HO645.out)
    have n2_ := Aside0.mk (blk_drew BK648.out)
    have n3_ := Aside0.mk (blk_drew BK649.out)
    have n4_ := Aside0.mk (blk_drew BK652.out)
    have n5_ := Aside0.mk (below_drew1 HB.out)
    clear HO642; clear HO645; clear BK648; clear BK649; clear BK652; clear HB; have HO642 := n0_; have HO645 := n1_; have BK648 := n2_; have BK649 := n3_; have BK652 := n4_; have HB := n5_; clear n0_ n1_ n2_ n3_ n4_ n5_
    refine start_ (n := 15) (S := fun w' => w'.cell? ⟨gb652, 0, none⟩ = some (.int .i64 t650) ∧ w'.cell? ⟨gb652, 1, none⟩ = some (.int .i64 t651) ∧ w'.cell? ⟨gb648, 0, none⟩ = some (.slice Ao10 t640.length co10) ∧ w'.cell? ⟨gb649, 0, none⟩ = some (.slice Ao13 t643.length co13) ∧ w'.cell? ⟨gb649, 1, none⟩ = some (.int .i64 t646)) (ds := []) (bm 15 0) (by kernel_rfl) rfl (by kernel_rfl) ⟨cl BK652 0, cl BK652 1, cl BK648 0, cl BK649 0, cl BK649 1⟩ (fun hHeld => ?_); refine with_tabW laws_FnFetched.tab5 laws_FnFetched.bits5 (fun HT_ HW_ => ?_)
    generalize w26.drew = w27 at HO642 HO645 BK648 BK649 BK652 HB hHeld ⊢
    refine pw_ 3 (some 33) (bm 15 8) HT_ ?_
    refine tw_ 0 (some 30) (bm 15 9) HT_ HW_ hHeld ?_
    refine tw_ 1 (some 31) (bm 15 11) HT_ HW_ hHeld ?_
    refine tw_ 2 (some 32) (bm 15 15) HT_ HW_ hHeld ?_
    refine ow_ 4 (some 34) (bm 15 31) HT_ (fun K hK => ?_)
    refine gw_ Try.func37 #[.agg #[.slice Ao10 t640.length co10], .agg #[.slice Ao13 t643.length co13, .int .i64 t646], .int .i64 t647] ?_
    with_reducible refine (spec_Fetch.calls k _ _ t640 _ _ t643 t646 t647 t650 t651 _ ?side1 ?side2 ?side3 ?side4 A20.out).mono ?_
    (case side1 => exact kc (Kd.S_reads' HO642.out).2.2)
    (case side2 => exact (Kd.S_reads' HO642.out).2.1)
    (case side3 => exact kc (Kd.Q_reads' HO645.out).2.2)
    (case side4 => exact (Kd.Q_reads' HO645.out).2.1)
    rintro e w28 ⟨rfl, hb⟩
    refine ⟨_, rfl, ?_⟩
    have n0_ := Aside0.mk (Kd.S_below (ks HO642.out) hb)
    have n1_ := Aside0.mk (Kd.Q_below (kq HO645.out) hb)
    have n2_ := Aside0.mk (blk_below (g := gb648) (o := .cells #[.slice Ao10 t640.length co10] 29 (0, 0)) (kb BK648.out) hb)
    have n3_ := Aside0.mk (blk_below (g := gb649) (o := .cells #[.slice Ao13 t643.length co13, .int .i64 t646] 32 (0, 0)) (kb BK649.out) hb)
    have n4_ := Aside0.mk (blk_below (g := gb652) (o := .cells #[.int .i64 t650, .int .i64 t651] 51 (0, 0)) (kb BK652.out) hb)
    have n5_ := Aside0.mk (below_step (bw HB.out) hb)
    clear HO642; clear HO645; clear BK648; clear BK649; clear BK652; clear HB; have HO642 := n0_; have HO645 := n1_; have BK648 := n2_; have BK649 := n3_; have BK652 := n4_; have HB := n5_; clear n0_ n1_ n2_ n3_ n4_ n5_; (try clear hb); (try clear hb2); (try clear hk); (try clear hi)
    refine hK.out _ _ ⟨cl BK652 0, cl BK652 1, cl BK648 0, cl BK649 0, cl BK649 1⟩ (fun hHeld => ?_)
    clear hK K
    refine nw_ ?_
    refine pw_ 5 (some 35) (bm 15 63) HT_ ?_
    refine pw_ 6 (some 36) (bm 15 127) HT_ ?_
    refine pw_ 7 (some 37) (bm 15 255) HT_ ?_
    refine pw_ 11 (some 41) (bm 15 2303) HT_ ?_
    refine tw_ 8 (some 38) (bm 15 2559) HT_ HW_ hHeld ?_
    refine tw_ 9 (some 39) (bm 15 3071) HT_ HW_ hHeld ?_
    refine tw_ 10 (some 40) (bm 15 4095) HT_ HW_ hHeld ?_
    refine ow_ 12 (some 42) (bm 15 8191) HT_ (fun K hK => ?_)
    refine gw_ Try.func14 #[.agg #[.slice Ao10 t640.length co10], .agg #[.slice Ao13 t643.length co13, .int .i64 t646], .int .i64 t647] ?_
    with_reducible refine (impl_Peek.calls k _ _ t640 _ _ t643 t646 t647 t655 _ ?side1 ?side2 ?side3 ?side4 A25.out).mono ?_
    (case side1 => exact kc (Kd.S_reads' HO642.out).2.2)
    (case side2 => exact (Kd.S_reads' HO642.out).2.1)
    (case side3 => exact kc (Kd.Q_reads' HO645.out).2.2)
    (case side4 => exact (Kd.Q_reads' HO645.out).2.1)
    rintro e w29 ⟨rfl, hb⟩
    refine ⟨_, rfl, ?_⟩
    have n0_ := Aside0.mk (Kd.S_below (ks HO642.out) hb)
    have n1_ := Aside0.mk (Kd.Q_below (kq HO645.out) hb)
    have n2_ := Aside0.mk (blk_below (g := gb648) (o := .cells #[.slice Ao10 t640.length co10] 29 (0, 0)) (kb BK648.out) hb)
    have n3_ := Aside0.mk (blk_below (g := gb649) (o := .cells #[.slice Ao13 t643.length co13, .int .i64 t646] 32 (0, 0)) (kb BK649.out) hb)
    have n4_ := Aside0.mk (blk_below (g := gb652) (o := .cells #[.int .i64 t650, .int .i64 t651] 51 (0, 0)) (kb BK652.out) hb)
    have n5_ := Aside0.mk (below_step (bw HB.out) hb)
    clear HO642; clear HO645; clear BK648; clear BK649; clear BK652; clear HB; have HO642 := n0_; have HO645 := n1_; have BK648 := n2_; have BK649 := n3_; have BK652 := n4_; have HB := n5_; clear n0_ n1_ n2_ n3_ n4_ n5_; (try clear hb); (try clear hb2); (try clear hk); (try clear hi)
    refine hK.out _ _ ⟨cl BK652 0, cl BK652 1, cl BK648 0, cl BK649 0, cl BK649 1⟩ (fun hHeld => ?_)
    clear hK K
    refine nw_ ?_
    refine pw_ 13 (some 43) (bm 15 16383) HT_ ?_
    refine pw_ 14 (some 44) (bm 15 32767) HT_ ?_
    refine done_ (done_of HT_.out (by kernel_rfl)) ?_
    try go_wp2
    go_meet
    case rel => exact ⟨_, ((t650 != t655)), (by first | rfl | (simp; done) | (simp [*]; done)), H', ⟨by first | omega | exact Nat.le_refl _⟩, ⟨ks HO642.out⟩, ⟨kq HO645.out⟩, ⟨kb BK648.out⟩, ⟨kb BK649.out⟩, ⟨kb BK652.out⟩, ⟨bw HB.out⟩⟩
  case rest =>
   clear HC6; (try clear c1); (try clear c2); (try clear p2); (try clear c3); (try clear c6); (try clear c9); (try clear c11); (try clear c14); (try clear c17); (try clear c18); (try clear c21); (try clear c21b0); (try clear hcz12_0); (try clear hcz14_0); (try clear hcz14_1); (try clear hcz19_0); (try clear hcz19_1); (try clear hfz12_0); (try clear hfz14_0); (try clear hfz14_1); (try clear hfz19_0); (try clear hfz19_1)
   obtain ⟨kq, x44_5, rfl, HA, HJ5, HO_649000, HO_650000, BK648, BK649, BK652, HB⟩ := hcut
   cases kq with
   | zero => exact absurd HA.out (by simp [laws_FnFetched.j0])
   | succ kj5 =>
    have H := HA.out
    clear HA
    simp only [laws_FnFetched.j0] at H
    by_cases c30 : x44_5 = true
    ·subst c30
     have H1 : (some false) = some r := by rw [if_pos rfl] at H; exact H
     clear H
     have H := H1
     clear H1
     exact absurd ((Option.some.inj H).trans hrt) (by decide)
    ·replace c30 := Bool.eq_false_iff.mpr c30
     subst c30
     have H1 : ((impl_OpLen.f kj5 t650).bind fun t656 => (if t656 = 1 then (if t651 = 0 then (if t656 = 2 then ((impl_Peek.f kj5 t640 t643 t646 (wrap64 (t647 + 1))).bind fun t657 => (if t651 = t657 then (if t656 = 3 then ((impl_Peek.f kj5 t640 t643 t646 (wrap64 (t647 + 1))).bind fun t658 => ((impl_Peek.f kj5 t640 t643 t646 (wrap64 (t647 + 2))).bind fun t659 => ((impl_Join.f t658 t659).bind fun t660 => (laws_FnFetched.j1 kj5 l0 (t651 != t660))))) else (laws_FnFetched.j1 kj5 l0 false)) else (laws_FnFetched.j1 kj5 l0 true))) else (if t656 = 3 then ((impl_Peek.f kj5 t640 t643 t646 (wrap64 (t647 + 1))).bind fun t661 => ((impl_Peek.f kj5 t640 t643 t646 (wrap64 (t647 + 2))).bind fun t662 => ((impl_Join.f t661 t662).bind fun t663 => (laws_FnFetched.j1 kj5 l0 (t651 != t663))))) else (laws_FnFetched.j1 kj5 l0 false))) else (laws_FnFetched.j1 kj5 l0 true)) else (if t656 = 2 then ((impl_Peek.f kj5 t640 t643 t646 (wrap64 (t647 + 1))).bind fun t664 => (if t651 = t664 then (if t656 = 3 then ((impl_Peek.f kj5 t640 t643 t646 (wrap64 (t647 + 1))).bind fun t665 => ((impl_Peek.f kj5 t640 t643 t646 (wrap64 (t647 + 2))).bind fun t666 => ((impl_Join.f t665 t666).bind fun t667 => (laws_FnFetched.j1 kj5 l0 (t651 != t667))))) else (laws_FnFetched.j1 kj5 l0 false)) else (laws_FnFetched.j1 kj5 l0 true))) else (if t656 = 3 then ((impl_Peek.f kj5 t640 t643 t646 (wrap64 (t647 + 1))).bind fun t668 => ((impl_Peek.f kj5 t640 t643 t646 (wrap64 (t647 + 2))).bind fun t669 => ((impl_Join.f t668 t669).bind fun t670 => (laws_FnFetched.j1 kj5 l0 (t651 != t670))))) else (laws_FnFetched.j1 kj5 l0 false))))) = some r := by rw [if_neg (show ¬ (false = true) by decide)] at H; exact H
     clear H
     have H := H1
     clear H1
     replace H := Option.bind_eq_some_iff.mp H
     obtain ⟨t656, A310, H⟩ := H
     replace H : (if t656 = 1 then (if t651 = 0 then (if t656 = 2 then ((impl_Peek.f kj5 t640 t643 t646 (wrap64 (t647 + 1))).bind fun t657 => (if t651 = t657 then (if t656 = 3 then ((impl_Peek.f kj5 t640 t643 t646 (wrap64 (t647 + 1))).bind fun t658 => ((impl_Peek.f kj5 t640 t643 t646 (wrap64 (t647 + 2))).bind fun t659 => ((impl_Join.f t658 t659).bind fun t660 => (laws_FnFetched.j1 kj5 l0 (t651 != t660))))) else (laws_FnFetched.j1 kj5 l0 false)) else (laws_FnFetched.j1 kj5 l0 true))) else (if t656 = 3 then ((impl_Peek.f kj5 t640 t643 t646 (wrap64 (t647 + 1))).bind fun t661 => ((impl_Peek.f kj5 t640 t643 t646 (wrap64 (t647 + 2))).bind fun t662 => ((impl_Join.f t661 t662).bind fun t663 => (laws_FnFetched.j1 kj5 l0 (t651 != t663))))) else (laws_FnFetched.j1 kj5 l0 false))) else (laws_FnFetched.j1 kj5 l0 true)) else (if t656 = 2 then ((impl_Peek.f kj5 t640 t643 t646 (wrap64 (t647 + 1))).bind fun t664 => (if t651 = t664 then (if t656 = 3 then ((impl_Peek.f kj5 t640 t643 t646 (wrap64 (t647 + 1))).bind fun t665 => ((impl_Peek.f kj5 t640 t643 t646 (wrap64 (t647 + 2))).bind fun t666 => ((impl_Join.f t665 t666).bind fun t667 => (laws_FnFetched.j1 kj5 l0 (t651 != t667))))) else (laws_FnFetched.j1 kj5 l0 false)) else (laws_FnFetched.j1 kj5 l0 true))) else (if t656 = 3 then ((impl_Peek.f kj5 t640 t643 t646 (wrap64 (t647 + 1))).bind fun t668 => ((impl_Peek.f kj5 t640 t643 t646 (wrap64 (t647 + 2))).bind fun t669 => ((impl_Join.f t668 t669).bind fun t670 => (laws_FnFetched.j1 kj5 l0 (t651 != t670))))) else (laws_FnFetched.j1 kj5 l0 false)))) = some r := H
     have A31 := Aside0.mk A310
     clear A310
     have HC32 := Aside0.mk H
     clear H
     have hnb33 := NB652_648.out
     have hnc33 := NB648_652.out
     have hnb34 := NB652_649.out
     have hnc34 := NB649_652.out
     have hcz35_0 : wc.cell? ⟨gb652, 0, none⟩ = some (.int .i64 t650) := cl BK652 0
     have hcz35_1 : wc.cell? ⟨gb652, 1, none⟩ = some (.int .i64 t651) := cl BK652 1
     have hfz35_0 := blk_frozen BK652.out 0
     have hfz35_1 := blk_frozen BK652.out 1
     go_upto_region 8 with (first | ((with_reducible refine gate_callee (f := 38) rfl ?_); refine goesM_ (some 47) rfl rfl Try.func38 #[.int .i64 t650] ?_; (with_reducible refine (impl_OpLen.calls kj5 t650 t656 _ A31.out).mono ?_); rintro e w' ⟨rfl, ⟨nd, rfl⟩⟩; refine ⟨_, rfl, ?_⟩))
     (try simp only [Act.put, List.setIfInBounds_toArray, List.set_cons_zero, List.set_cons_succ])
     have n0_ := Aside0.mk (Kd.S_drewN HO_649000.out nd)
     have n1_ := Aside0.mk (Kd.Q_drewN HO_650000.out nd)
     have n2_ := Aside0.mk (blk_drewN BK648.out nd)
     have n3_ := Aside0.mk (blk_drewN BK649.out nd)
     have n4_ := Aside0.mk (blk_drewN BK652.out nd)
     have n5_ := Aside0.mk (pw_below_drewN HB.out nd)
     clear HO_649000 HO_650000 BK648 BK649 BK652 HB; have HO_649000 := n0_; have HO_650000 := n1_; have BK648 := n2_; have BK649 := n3_; have BK652 := n4_; have HB := n5_; clear n0_ n1_ n2_ n3_ n4_ n5_
     generalize wc.drewN nd = wc at HO_649000 HO_650000 BK648 BK649 BK652 HB ⊢
     go_cut [88] (fun v88 wc => ∃ (kq : Nat) (x88_31 : Bool), v88 = .bool x88_31 ∧ Aside0 (laws_FnFetched.j1 kq l0 x88_31 = some r) ∧ Aside0 (kq ≤ kj5) ∧ Aside0 (Kd.S (cutK 3 (Kd.int .i64)) 30 wc w.heap.size (fun k_ => some k_ ≠ ((.slice Ao13 t643.length co13) : Value).ownBlock) (.slice Ao10 t640.length co10) t640) ∧ Aside0 (Kd.Q (Kd.int .i64) 3 wc w.heap.size (fun _ => True) (.slice Ao13 t643.length co13) t643) ∧ Aside0 (wc.heap[gb648]? = some (.cells #[(.slice Ao10 t640.length co10)] 29 (0, 0))) ∧ Aside0 (wc.heap[gb649]? = some (.cells #[(.slice Ao13 t643.length co13), .int .i64 t646] 32 (0, 0))) ∧ Aside0 (wc.heap[gb652]? = some (.cells #[.int .i64 t650, .int .i64 t651] 51 (0, 0))) ∧ Aside0 (Below w.heap.size w wc))
     case first =>
      have H := HC32.out
      clear HC32
      by_cases c36 : t656 = 1
      ·rw [if_pos c36] at H
       have c36b0 : (t656 == 1) = true := beq_iff_eq.mpr c36
       have c36b1 : (t656 != 1) = false := bne_eq_false_iff_eq.mpr c36
       clear c36
       (first | rw [c36b0] | (simp only [i64_w, i32_w]; rw [c36b0]) | skip)
       by_cases c37 : t651 = 0
       ·rw [if_pos c37] at H
        have c37b0 : (t651 == 0) = true := beq_iff_eq.mpr c37
        have c37b1 : (t651 != 0) = false := bne_eq_false_iff_eq.mpr c37
        clear c37
        by_cases c38 : t656 = 2
        ·exact absurd (beq_iff_eq.mp c36b0) (by omega)
        ·rw [if_neg c38] at H
         have c38b0 : (t656 == 2) = false := beq_eq_false_iff_ne.mpr c38
         have c38b1 : (t656 != 2) = true := bne_iff_ne.mpr c38
         by_cases c53 : t656 = 3
         ·exact absurd (beq_iff_eq.mp c36b0) (by omega)
         ·rw [if_neg c53] at H
          have c53b0 : (t656 == 3) = false := beq_eq_false_iff_ne.mpr c53
          have c53b1 : (t656 != 3) = true := bne_iff_ne.mpr c53
          have H' := Aside0.mk H
          clear H
          try go_wp2
          have n0_ := Aside0.mk (Kd.S_drew HO_649000.out)
          have n1_ := Aside0.mk (Kd.Q_drew HO_650000.out)
          have n2_ := Aside0.mk (blk_drew BK648.out)
          have n3_ := Aside0.mk (blk_drew BK649.out)
          have n4_ := Aside0.mk (blk_drew BK652.out)
          have n5_ := Aside0.mk (below_drew1 HB.out)
          clear HO_649000; clear HO_650000; clear BK648; clear BK649; clear BK652; clear HB; have HO_649000 := n0_; have HO_650000 := n1_; have BK648 := n2_; have BK649 := n3_; have BK652 := n4_; have HB := n5_; clear n0_ n1_ n2_ n3_ n4_ n5_
          refine start_ (n := 41) (S := fun w' => w'.cell? ⟨gb652, 0, none⟩ = some (.int .i64 t650) ∧ w'.cell? ⟨gb652, 1, none⟩ = some (.int .i64 t651)) (ds := []) (bm 41 0) (by kernel_rfl) rfl (by kernel_rfl) ⟨cl BK652 0, cl BK652 1⟩ (fun hHeld => ?_); refine with_tabW laws_FnFetched.tab8 laws_FnFetched.bits8 (fun HT_ HW_ => ?_)
          generalize wc.drew = w60 at HO_649000 HO_650000 BK648 BK649 BK652 HB hHeld ⊢
          refine pw_ 0 (some 48) (bm 41 1) HT_ ?_
          refine pw_ 1 (some 49) (bm 41 3) HT_ ?_
          refine pw_ 2 (some 50) (bm 41 7) HT_ ?_
          refine pw_ 3 (some 51) (bm 41 15) HT_ ?_
          refine tw_ 4 (some 52) (bm 41 31) HT_ HW_ hHeld ?_
          refine pw_ 5 (some 53) (bm 41 63) HT_ ?_
          refine pw_ 6 (some 54) (bm 41 127) HT_ ?_
          refine pw_ 7 (some 55) (bm 41 255) HT_ ?_
          refine pw_ 8 (some 56) (bm 41 511) HT_ ?_
          refine pw_ 9 (some 57) (bm 41 1023) HT_ ?_
          refine pw_ 10 (some 58) (bm 41 2047) HT_ ?_
          refine uw_ 11 (some 59) (bm 41 4095) HT_ ?_
          refine uw_ 12 (some 60) (bm 41 8191) HT_ ?_
          refine uw_ 13 (some 61) (bm 41 16383) HT_ ?_
          refine uw_ 14 (some 62) (bm 41 32767) HT_ ?_
          refine uw_ 15 (some 63) (bm 41 65535) HT_ ?_
          refine uw_ 16 (some 64) (bm 41 131071) HT_ ?_
          refine uw_ 17 (some 65) (bm 41 262143) HT_ ?_
          refine uw_ 18 (some 66) (bm 41 524287) HT_ ?_
          refine pw_ 19 (some 67) (bm 41 1048575) HT_ ?_
          refine pw_ 20 (some 68) (bm 41 2097151) HT_ ?_
          refine pw_ 21 (some 69) (bm 41 4194303) HT_ ?_
          refine pw_ 22 (some 70) (bm 41 8388607) HT_ ?_
          refine pw_ 23 (some 71) (bm 41 16777215) HT_ ?_
          refine pw_ 24 (some 72) (bm 41 33554431) HT_ ?_
          refine uw_ 25 (some 73) (bm 41 67108863) HT_ ?_
          refine uw_ 26 (some 74) (bm 41 134217727) HT_ ?_
          refine uw_ 27 (some 75) (bm 41 268435455) HT_ ?_
          refine uw_ 28 (some 76) (bm 41 536870911) HT_ ?_
          refine uw_ 29 (some 77) (bm 41 1073741823) HT_ ?_
          refine uw_ 30 (some 78) (bm 41 2147483647) HT_ ?_
          refine uw_ 31 (some 79) (bm 41 4294967295) HT_ ?_
          refine uw_ 32 (some 80) (bm 41 8589934591) HT_ ?_
          refine uw_ 33 (some 81) (bm 41 17179869183) HT_ ?_
          refine uw_ 34 (some 82) (bm 41 34359738367) HT_ ?_
          refine uw_ 35 (some 83) (bm 41 68719476735) HT_ ?_
          refine uw_ 36 (some 84) (bm 41 137438953471) HT_ ?_
          refine uw_ 37 (some 85) (bm 41 274877906943) HT_ ?_
          refine uw_ 38 (some 86) (bm 41 549755813887) HT_ ?_
          refine pw_ 39 (some 87) (bm 41 1099511627775) HT_ ?_
          refine pw_ 40 (some 88) (bm 41 2199023255551) HT_ ?_
          refine done_ (done_of HT_.out (by kernel_rfl)) ?_
          try go_wp2
          go_meet
          case rel => exact ⟨_, (false), (by first | rfl | (simp; done) | (simp [*]; done)), H', ⟨by have := HJ5.out; first | omega | exact Nat.le_refl _⟩, ⟨ks HO_649000.out⟩, ⟨kq HO_650000.out⟩, ⟨kb BK648.out⟩, ⟨kb BK649.out⟩, ⟨kb BK652.out⟩, ⟨bw HB.out⟩⟩
       ·rw [if_neg c37] at H
        have c37b0 : (t651 == 0) = false := beq_eq_false_iff_ne.mpr c37
        have c37b1 : (t651 != 0) = true := bne_iff_ne.mpr c37
        exact absurd (show r = false by first | (cases k with | zero => (simp [laws_FnFetched.j1] at H; done) | succ k_ => (simp [laws_FnFetched.j1] at H; (first | exact H | exact H.symm))) | (cases kj31 with | zero => (simp [laws_FnFetched.j1] at H; done) | succ k_ => (simp [laws_FnFetched.j1] at H; (first | exact H | exact H.symm))) | (cases kj5 with | zero => (simp [laws_FnFetched.j1] at H; done) | succ k_ => (simp [laws_FnFetched.j1] at H; (first | exact H | exact H.symm)))) (by rw [hrt]; decide)
      ·rw [if_neg c36] at H
       have c36b0 : (t656 == 1) = false := beq_eq_false_iff_ne.mpr c36
       have c36b1 : (t656 != 1) = true := bne_iff_ne.mpr c36
       (first | rw [c36b0] | (simp only [i64_w, i32_w]; rw [c36b0]) | skip)
       by_cases c62 : t656 = 2
       ·rw [if_pos c62] at H
        have c62b0 : (t656 == 2) = true := beq_iff_eq.mpr c62
        have c62b1 : (t656 != 2) = false := bne_eq_false_iff_eq.mpr c62
        clear c62
        replace H := Option.bind_eq_some_iff.mp H
        obtain ⟨t664, A630, H⟩ := H
        replace H : (if t651 = t664 then (if t656 = 3 then ((impl_Peek.f kj5 t640 t643 t646 (wrap64 (t647 + 1))).bind fun t665 => ((impl_Peek.f kj5 t640 t643 t646 (wrap64 (t647 + 2))).bind fun t666 => ((impl_Join.f t665 t666).bind fun t667 => (laws_FnFetched.j1 kj5 l0 (t651 != t667))))) else (laws_FnFetched.j1 kj5 l0 false)) else (laws_FnFetched.j1 kj5 l0 true)) = some r := H
        have A63 := Aside0.mk A630
        clear A630
        by_cases c64 : t651 = t664
        ·rw [if_pos c64] at H
         have c64b0 : (t651 == t664) = true := beq_iff_eq.mpr c64
         have c64b1 : (t651 != t664) = false := bne_eq_false_iff_eq.mpr c64
         clear c64
         by_cases c65 : t656 = 3
         ·exact absurd (beq_iff_eq.mp c62b0) (by omega)
         ·rw [if_neg c65] at H
          have c65b0 : (t656 == 3) = false := beq_eq_false_iff_ne.mpr c65
          have c65b1 : (t656 != 3) = true := bne_iff_ne.mpr c65
          have H' := Aside0.mk H
          clear H
          try go_wp2
          have n0_ := Aside0.mk (Kd.S_drew HO_649000.out)
          have n1_ := Aside0.mk (Kd.Q_drew HO_650000.out)
          have n2_ := Aside0.mk (blk_drew BK648.out)
          have n3_ := Aside0.mk (blk_drew BK649.out)
          have n4_ := Aside0.mk (blk_drew BK652.out)
          have n5_ := Aside0.mk (below_drew1 HB.out)
          clear HO_649000; clear HO_650000; clear BK648; clear BK649; clear BK652; clear HB; have HO_649000 := n0_; have HO_650000 := n1_; have BK648 := n2_; have BK649 := n3_; have BK652 := n4_; have HB := n5_; clear n0_ n1_ n2_ n3_ n4_ n5_
          refine start_ (n := 41) (S := fun w' => w'.cell? ⟨gb652, 0, none⟩ = some (.int .i64 t650) ∧ w'.cell? ⟨gb652, 1, none⟩ = some (.int .i64 t651) ∧ w'.cell? ⟨gb648, 0, none⟩ = some (.slice Ao10 t640.length co10) ∧ w'.cell? ⟨gb649, 0, none⟩ = some (.slice Ao13 t643.length co13) ∧ w'.cell? ⟨gb649, 1, none⟩ = some (.int .i64 t646)) (ds := []) (bm 41 0) (by kernel_rfl) rfl (by kernel_rfl) ⟨cl BK652 0, cl BK652 1, cl BK648 0, cl BK649 0, cl BK649 1⟩ (fun hHeld => ?_); refine with_tabW laws_FnFetched.tab8 laws_FnFetched.bits8 (fun HT_ HW_ => ?_)
          generalize wc.drew = w73 at HO_649000 HO_650000 BK648 BK649 BK652 HB hHeld ⊢
          refine pw_ 0 (some 48) (bm 41 1) HT_ ?_
          refine pw_ 1 (some 49) (bm 41 3) HT_ ?_
          refine pw_ 2 (some 50) (bm 41 7) HT_ ?_
          refine uw_ 3 (some 51) (bm 41 15) HT_ ?_
          refine uw_ 4 (some 52) (bm 41 31) HT_ ?_
          refine uw_ 5 (some 53) (bm 41 63) HT_ ?_
          refine pw_ 6 (some 54) (bm 41 127) HT_ ?_
          refine pw_ 7 (some 55) (bm 41 255) HT_ ?_
          refine pw_ 8 (some 56) (bm 41 511) HT_ ?_
          refine pw_ 9 (some 57) (bm 41 1023) HT_ ?_
          refine pw_ 10 (some 58) (bm 41 2047) HT_ ?_
          refine pw_ 11 (some 59) (bm 41 4095) HT_ ?_
          refine pw_ 15 (some 63) (bm 41 36863) HT_ ?_
          refine pw_ 16 (some 64) (bm 41 102399) HT_ ?_
          refine tw_ 12 (some 60) (bm 41 106495) HT_ HW_ hHeld ?_
          refine tw_ 13 (some 61) (bm 41 114687) HT_ HW_ hHeld ?_
          refine tw_ 14 (some 62) (bm 41 131071) HT_ HW_ hHeld ?_
          refine ow_ 17 (some 65) (bm 41 262143) HT_ (fun K hK => ?_)
          refine gw_ Try.func14 #[.agg #[.slice Ao10 t640.length co10], .agg #[.slice Ao13 t643.length co13, .int .i64 t646], .int .i64 (wrap64 (t647 + 1))] ?_
          with_reducible refine (impl_Peek.calls kj5 _ _ t640 _ _ t643 t646 (wrap64 (t647 + 1)) t664 _ ?side1 ?side2 ?side3 ?side4 A63.out).mono ?_
          (case side1 => exact kc (Kd.S_reads' HO_649000.out).2.2)
          (case side2 => exact (Kd.S_reads' HO_649000.out).2.1)
          (case side3 => exact kc (Kd.Q_reads' HO_650000.out).2.2)
          (case side4 => exact (Kd.Q_reads' HO_650000.out).2.1)
          rintro e w74 ⟨rfl, hb⟩
          refine ⟨_, rfl, ?_⟩
          have n0_ := Aside0.mk (Kd.S_below (ks HO_649000.out) hb)
          have n1_ := Aside0.mk (Kd.Q_below (kq HO_650000.out) hb)
          have n2_ := Aside0.mk (blk_below (g := gb648) (o := .cells #[.slice Ao10 t640.length co10] 29 (0, 0)) (kb BK648.out) hb)
          have n3_ := Aside0.mk (blk_below (g := gb649) (o := .cells #[.slice Ao13 t643.length co13, .int .i64 t646] 32 (0, 0)) (kb BK649.out) hb)
          have n4_ := Aside0.mk (blk_below (g := gb652) (o := .cells #[.int .i64 t650, .int .i64 t651] 51 (0, 0)) (kb BK652.out) hb)
          have n5_ := Aside0.mk (below_step (bw HB.out) hb)
          clear HO_649000; clear HO_650000; clear BK648; clear BK649; clear BK652; clear HB; have HO_649000 := n0_; have HO_650000 := n1_; have BK648 := n2_; have BK649 := n3_; have BK652 := n4_; have HB := n5_; clear n0_ n1_ n2_ n3_ n4_ n5_; (try clear hb); (try clear hb2); (try clear hk); (try clear hi)
          refine hK.out _ _ ⟨cl BK652 0, cl BK652 1, cl BK648 0, cl BK649 0, cl BK649 1⟩ (fun hHeld => ?_)
          clear hK K
          refine nw_ ?_
          refine pw_ 18 (some 66) (bm 41 524287) HT_ ?_
          refine pw_ 19 (some 67) (bm 41 1048575) HT_ ?_
          refine pw_ 20 (some 68) (bm 41 2097151) HT_ ?_
          refine pw_ 21 (some 69) (bm 41 4194303) HT_ ?_
          refine pw_ 22 (some 70) (bm 41 8388607) HT_ ?_
          refine pw_ 23 (some 71) (bm 41 16777215) HT_ ?_
          refine pw_ 24 (some 72) (bm 41 33554431) HT_ ?_
          refine uw_ 25 (some 73) (bm 41 67108863) HT_ ?_
          refine uw_ 26 (some 74) (bm 41 134217727) HT_ ?_
          refine uw_ 27 (some 75) (bm 41 268435455) HT_ ?_
          refine uw_ 28 (some 76) (bm 41 536870911) HT_ ?_
          refine uw_ 29 (some 77) (bm 41 1073741823) HT_ ?_
          refine uw_ 30 (some 78) (bm 41 2147483647) HT_ ?_
          refine uw_ 31 (some 79) (bm 41 4294967295) HT_ ?_
          refine uw_ 32 (some 80) (bm 41 8589934591) HT_ ?_
          refine uw_ 33 (some 81) (bm 41 17179869183) HT_ ?_
          refine uw_ 34 (some 82) (bm 41 34359738367) HT_ ?_
          refine uw_ 35 (some 83) (bm 41 68719476735) HT_ ?_
          refine uw_ 36 (some 84) (bm 41 137438953471) HT_ ?_
          refine uw_ 37 (some 85) (bm 41 274877906943) HT_ ?_
          refine uw_ 38 (some 86) (bm 41 549755813887) HT_ ?_
          refine pw_ 39 (some 87) (bm 41 1099511627775) HT_ ?_
          refine pw_ 40 (some 88) (bm 41 2199023255551) HT_ ?_
          refine done_ (done_of HT_.out (by kernel_rfl)) ?_
          try go_wp2
          go_meet
          case rel => exact ⟨_, (false), (by first | rfl | (simp; done) | (simp [*]; done)), H', ⟨by have := HJ5.out; first | omega | exact Nat.le_refl _⟩, ⟨ks HO_649000.out⟩, ⟨kq HO_650000.out⟩, ⟨kb BK648.out⟩, ⟨kb BK649.out⟩, ⟨kb BK652.out⟩, ⟨bw HB.out⟩⟩
        ·rw [if_neg c64] at H
         have c64b0 : (t651 == t664) = false := beq_eq_false_iff_ne.mpr c64
         have c64b1 : (t651 != t664) = true := bne_iff_ne.mpr c64
         exact absurd (show r = false by first | (cases k with | zero => (simp [laws_FnFetched.j1] at H; done) | succ k_ => (simp [laws_FnFetched.j1] at H; (first | exact H | exact H.symm))) | (cases kj31 with | zero => (simp [laws_FnFetched.j1] at H; done) | succ k_ => (simp [laws_FnFetched.j1] at H; (first | exact H | exact H.symm))) | (cases kj5 with | zero => (simp [laws_FnFetched.j1] at H; done) | succ k_ => (simp [laws_FnFetched.j1] at H; (first | exact H | exact H.symm)))) (by rw [hrt]; decide)
       ·rw [if_neg c62] at H
        have c62b0 : (t656 == 2) = false := beq_eq_false_iff_ne.mpr c62
        have c62b1 : (t656 != 2) = true := bne_iff_ne.mpr c62
        by_cases c77 : t656 = 3
        ·rw [if_pos c77] at H
         have c77b0 : (t656 == 3) = true := beq_iff_eq.mpr c77
         have c77b1 : (t656 != 3) = false := bne_eq_false_iff_eq.mpr c77
         clear c77
         replace H := Option.bind_eq_some_iff.mp H
         obtain ⟨t668, A780, H⟩ := H
         replace H : ((impl_Peek.f kj5 t640 t643 t646 (wrap64 (t647 + 2))).bind fun t669 => ((impl_Join.f t668 t669).bind fun t670 => (laws_FnFetched.j1 kj5 l0 (t651 != t670)))) = some r := H
         have A78 := Aside0.mk A780
         clear A780
         replace H := Option.bind_eq_some_iff.mp H
         obtain ⟨t669, A790, H⟩ := H
         replace H : ((impl_Join.f t668 t669).bind fun t670 => (laws_FnFetched.j1 kj5 l0 (t651 != t670))) = some r := H
         have A79 := Aside0.mk A790
         clear A790
         replace H := Option.bind_eq_some_iff.mp H
         obtain ⟨t670, A800, H⟩ := H
         replace H : (laws_FnFetched.j1 kj5 l0 (t651 != t670)) = some r := H
         have A80 := Aside0.mk A800
         clear A800
         have H' := Aside0.mk H
         clear H
         try go_wp2
         have n0_ := Aside0.mk (Kd.S_drew HO_649000.out)
         have n1_ := Aside0.mk (Kd.Q_drew HO_650000.out)
         have n2_ := Aside0.mk (blk_drew BK648.out)
         have n3_ := Aside0.mk (blk_drew BK649.out)
         have n4_ := Aside0.mk (blk_drew BK652.out)
         have n5_ := Aside0.mk (below_drew1 HB.out)
         clear HO_649000; clear HO_650000; clear BK648; clear BK649; clear BK652; clear HB; have HO_649000 := n0_; have HO_650000 := n1_; have BK648 := n2_; have BK649 := n3_; have BK652 := n4_; have HB := n5_; clear n0_ n1_ n2_ n3_ n4_ n5_
         refine start_ (n := 41) (S := fun w' => w'.cell? ⟨gb652, 0, none⟩ = some (.int .i64 t650) ∧ w'.cell? ⟨gb652, 1, none⟩ = some (.int .i64 t651) ∧ w'.cell? ⟨gb648, 0, none⟩ = some (.slice Ao10 t640.length co10) ∧ w'.cell? ⟨gb649, 0, none⟩ = some (.slice Ao13 t643.length co13) ∧ w'.cell? ⟨gb649, 1, none⟩ = some (.int .i64 t646)) (ds := []) (bm 41 0) (by kernel_rfl) rfl (by kernel_rfl) ⟨cl BK652 0, cl BK652 1, cl BK648 0, cl BK649 0, cl BK649 1⟩ (fun hHeld => ?_); refine with_tabW laws_FnFetched.tab8 laws_FnFetched.bits8 (fun HT_ HW_ => ?_)
         generalize wc.drew = w81 at HO_649000 HO_650000 BK648 BK649 BK652 HB hHeld ⊢
         refine pw_ 0 (some 48) (bm 41 1) HT_ ?_
         refine pw_ 1 (some 49) (bm 41 3) HT_ ?_
         refine pw_ 2 (some 50) (bm 41 7) HT_ ?_
         refine uw_ 3 (some 51) (bm 41 15) HT_ ?_
         refine uw_ 4 (some 52) (bm 41 31) HT_ ?_
         refine uw_ 5 (some 53) (bm 41 63) HT_ ?_
         refine pw_ 6 (some 54) (bm 41 127) HT_ ?_
         refine pw_ 7 (some 55) (bm 41 255) HT_ ?_
         refine pw_ 8 (some 56) (bm 41 511) HT_ ?_
         refine pw_ 9 (some 57) (bm 41 1023) HT_ ?_
         refine pw_ 10 (some 58) (bm 41 2047) HT_ ?_
         refine uw_ 11 (some 59) (bm 41 4095) HT_ ?_
         refine uw_ 12 (some 60) (bm 41 8191) HT_ ?_
         refine uw_ 13 (some 61) (bm 41 16383) HT_ ?_
         refine uw_ 14 (some 62) (bm 41 32767) HT_ ?_
         refine uw_ 15 (some 63) (bm 41 65535) HT_ ?_
         refine uw_ 16 (some 64) (bm 41 131071) HT_ ?_
         refine uw_ 17 (some 65) (bm 41 262143) HT_ ?_
         refine uw_ 18 (some 66) (bm 41 524287) HT_ ?_
         refine pw_ 19 (some 67) (bm 41 1048575) HT_ ?_
         refine pw_ 20 (some 68) (bm 41 2097151) HT_ ?_
         refine pw_ 21 (some 69) (bm 41 4194303) HT_ ?_
         refine pw_ 22 (some 70) (bm 41 8388607) HT_ ?_
         refine pw_ 23 (some 71) (bm 41 16777215) HT_ ?_
         refine pw_ 24 (some 72) (bm 41 33554431) HT_ ?_
         refine pw_ 25 (some 73) (bm 41 67108863) HT_ ?_
         refine pw_ 29 (some 77) (bm 41 603979775) HT_ ?_
         refine pw_ 30 (some 78) (bm 41 1677721599) HT_ ?_
         refine pw_ 34 (some 82) (bm 41 18857590783) HT_ ?_
         refine pw_ 35 (some 83) (bm 41 53217329151) HT_ ?_
         refine tw_ 26 (some 74) (bm 41 53284438015) HT_ HW_ hHeld ?_
         refine tw_ 27 (some 75) (bm 41 53418655743) HT_ HW_ hHeld ?_
         refine tw_ 28 (some 76) (bm 41 53687091199) HT_ HW_ hHeld ?_
         refine tw_ 32 (some 80) (bm 41 57982058495) HT_ HW_ hHeld ?_
         refine tw_ 33 (some 81) (bm 41 66571993087) HT_ HW_ hHeld ?_
         refine ow_ 31 (some 79) (bm 41 68719476735) HT_ (fun K hK => ?_)
         refine gw_ Try.func14 #[.agg #[.slice Ao10 t640.length co10], .agg #[.slice Ao13 t643.length co13, .int .i64 t646], .int .i64 (wrap64 (t647 + 1))] ?_
         with_reducible refine (impl_Peek.calls kj5 _ _ t640 _ _ t643 t646 (wrap64 (t647 + 1)) t668 _ ?side1 ?side2 ?side3 ?side4 A78.out).mono ?_
         (case side1 => exact kc (Kd.S_reads' HO_649000.out).2.2)
         (case side2 => exact (Kd.S_reads' HO_649000.out).2.1)
         (case side3 => exact kc (Kd.Q_reads' HO_650000.out).2.2)
         (case side4 => exact (Kd.Q_reads' HO_650000.out).2.1)
         rintro e w82 ⟨rfl, hb⟩
         refine ⟨_, rfl, ?_⟩
         have n0_ := Aside0.mk (Kd.S_below (ks HO_649000.out) hb)
         have n1_ := Aside0.mk (Kd.Q_below (kq HO_650000.out) hb)
         have n2_ := Aside0.mk (blk_below (g := gb648) (o := .cells #[.slice Ao10 t640.length co10] 29 (0, 0)) (kb BK648.out) hb)
         have n3_ := Aside0.mk (blk_below (g := gb649) (o := .cells #[.slice Ao13 t643.length co13, .int .i64 t646] 32 (0, 0)) (kb BK649.out) hb)
         have n4_ := Aside0.mk (blk_below (g := gb652) (o := .cells #[.int .i64 t650, .int .i64 t651] 51 (0, 0)) (kb BK652.out) hb)
         have n5_ := Aside0.mk (below_step (bw HB.out) hb)
         clear HO_649000; clear HO_650000; clear BK648; clear BK649; clear BK652; clear HB; have HO_649000 := n0_; have HO_650000 := n1_; have BK648 := n2_; have BK649 := n3_; have BK652 := n4_; have HB := n5_; clear n0_ n1_ n2_ n3_ n4_ n5_; (try clear hb); (try clear hb2); (try clear hk); (try clear hi)
         refine hK.out _ _ ⟨cl BK652 0, cl BK652 1, cl BK648 0, cl BK649 0, cl BK649 1⟩ (fun hHeld => ?_)
         clear hK K
         refine nw_ ?_
         refine ow_ 36 (some 84) (bm 41 137438953471) HT_ (fun K hK => ?_)
         refine gw_ Try.func14 #[.agg #[.slice Ao10 t640.length co10], .agg #[.slice Ao13 t643.length co13, .int .i64 t646], .int .i64 (wrap64 (t647 + 2))] ?_
         with_reducible refine (impl_Peek.calls kj5 _ _ t640 _ _ t643 t646 (wrap64 (t647 + 2)) t669 _ ?side1 ?side2 ?side3 ?side4 A79.out).mono ?_
         (case side1 => exact kc (Kd.S_reads' HO_649000.out).2.2)
         (case side2 => exact (Kd.S_reads' HO_649000.out).2.1)
         (case side3 => exact kc (Kd.Q_reads' HO_650000.out).2.2)
         (case side4 => exact (Kd.Q_reads' HO_650000.out).2.1)
         rintro e w83 ⟨rfl, hb⟩
         refine ⟨_, rfl, ?_⟩
         have n0_ := Aside0.mk (Kd.S_below (ks HO_649000.out) hb)
         have n1_ := Aside0.mk (Kd.Q_below (kq HO_650000.out) hb)
         have n2_ := Aside0.mk (blk_below (g := gb648) (o := .cells #[.slice Ao10 t640.length co10] 29 (0, 0)) (kb BK648.out) hb)
         have n3_ := Aside0.mk (blk_below (g := gb649) (o := .cells #[.slice Ao13 t643.length co13, .int .i64 t646] 32 (0, 0)) (kb BK649.out) hb)
         have n4_ := Aside0.mk (blk_below (g := gb652) (o := .cells #[.int .i64 t650, .int .i64 t651] 51 (0, 0)) (kb BK652.out) hb)
         have n5_ := Aside0.mk (below_step (bw HB.out) hb)
         clear HO_649000; clear HO_650000; clear BK648; clear BK649; clear BK652; clear HB; have HO_649000 := n0_; have HO_650000 := n1_; have BK648 := n2_; have BK649 := n3_; have BK652 := n4_; have HB := n5_; clear n0_ n1_ n2_ n3_ n4_ n5_; (try clear hb); (try clear hb2); (try clear hk); (try clear hi)
         refine hK.out _ _ ⟨cl BK652 0, cl BK652 1, cl BK648 0, cl BK649 0, cl BK649 1⟩ (fun hHeld => ?_)
         clear hK K
         refine nw_ ?_
         refine ow_ 37 (some 85) (bm 41 274877906943) HT_ (fun K hK => ?_)
         refine gw_ Try.func39 #[.int .i64 t668, .int .i64 t669] ?_
         with_reducible refine (impl_Join.calls t668 t669 t670 _ A80.out).mono ?_
         rintro e w' ⟨rfl, ⟨nd, rfl⟩⟩
         refine ⟨_, rfl, ?_⟩
         have n0_ := Aside0.mk (Kd.S_drewN HO_649000.out nd)
         have n1_ := Aside0.mk (Kd.Q_drewN HO_650000.out nd)
         have n2_ := Aside0.mk (blk_drewN BK648.out nd)
         have n3_ := Aside0.mk (blk_drewN BK649.out nd)
         have n4_ := Aside0.mk (blk_drewN BK652.out nd)
         have n5_ := Aside0.mk (pw_below_drewN HB.out nd)
         clear HO_649000; clear HO_650000; clear BK648; clear BK649; clear BK652; clear HB; have HO_649000 := n0_; have HO_650000 := n1_; have BK648 := n2_; have BK649 := n3_; have BK652 := n4_; have HB := n5_; clear n0_ n1_ n2_ n3_ n4_ n5_
         generalize w83.drewN nd = w83 at HO_649000 HO_650000 BK648 BK649 BK652 HB ⊢
         refine hK.out _ _ ⟨cl BK652 0, cl BK652 1, cl BK648 0, cl BK649 0, cl BK649 1⟩ (fun hHeld => ?_)
         clear hK K
         refine nw_ ?_
         refine pw_ 38 (some 86) (bm 41 549755813887) HT_ ?_
         refine pw_ 39 (some 87) (bm 41 1099511627775) HT_ ?_
         refine pw_ 40 (some 88) (bm 41 2199023255551) HT_ ?_
         refine done_ (done_of HT_.out (by kernel_rfl)) ?_
         try go_wp2
         go_meet
         case rel => exact ⟨_, ((t651 != t670)), (by first | rfl | (simp; done) | (simp [*]; done)), H', ⟨by have := HJ5.out; first | omega | exact Nat.le_refl _⟩, ⟨ks HO_649000.out⟩, ⟨kq HO_650000.out⟩, ⟨kb BK648.out⟩, ⟨kb BK649.out⟩, ⟨kb BK652.out⟩, ⟨bw HB.out⟩⟩
        ·rw [if_neg c77] at H
         have c77b0 : (t656 == 3) = false := beq_eq_false_iff_ne.mpr c77
         have c77b1 : (t656 != 3) = true := bne_iff_ne.mpr c77
         have H' := Aside0.mk H
         clear H
         try go_wp2
         have n0_ := Aside0.mk (Kd.S_drew HO_649000.out)
         have n1_ := Aside0.mk (Kd.Q_drew HO_650000.out)
         have n2_ := Aside0.mk (blk_drew BK648.out)
         have n3_ := Aside0.mk (blk_drew BK649.out)
         have n4_ := Aside0.mk (blk_drew BK652.out)
         have n5_ := Aside0.mk (below_drew1 HB.out)
         clear HO_649000; clear HO_650000; clear BK648; clear BK649; clear BK652; clear HB; have HO_649000 := n0_; have HO_650000 := n1_; have BK648 := n2_; have BK649 := n3_; have BK652 := n4_; have HB := n5_; clear n0_ n1_ n2_ n3_ n4_ n5_
         refine start_ (n := 41) (S := fun w' => True) (ds := []) (bm 41 0) (by kernel_rfl) rfl (by kernel_rfl) trivial (fun hHeld => ?_); refine with_tabW laws_FnFetched.tab8 laws_FnFetched.bits8 (fun HT_ HW_ => ?_)
         generalize wc.drew = w84 at HO_649000 HO_650000 BK648 BK649 BK652 HB hHeld ⊢
         refine pw_ 0 (some 48) (bm 41 1) HT_ ?_
         refine pw_ 1 (some 49) (bm 41 3) HT_ ?_
         refine pw_ 2 (some 50) (bm 41 7) HT_ ?_
         refine uw_ 3 (some 51) (bm 41 15) HT_ ?_
         refine uw_ 4 (some 52) (bm 41 31) HT_ ?_
         refine uw_ 5 (some 53) (bm 41 63) HT_ ?_
         refine pw_ 6 (some 54) (bm 41 127) HT_ ?_
         refine pw_ 7 (some 55) (bm 41 255) HT_ ?_
         refine pw_ 8 (some 56) (bm 41 511) HT_ ?_
         refine pw_ 9 (some 57) (bm 41 1023) HT_ ?_
         refine pw_ 10 (some 58) (bm 41 2047) HT_ ?_
         refine uw_ 11 (some 59) (bm 41 4095) HT_ ?_
         refine uw_ 12 (some 60) (bm 41 8191) HT_ ?_
         refine uw_ 13 (some 61) (bm 41 16383) HT_ ?_
         refine uw_ 14 (some 62) (bm 41 32767) HT_ ?_
         refine uw_ 15 (some 63) (bm 41 65535) HT_ ?_
         refine uw_ 16 (some 64) (bm 41 131071) HT_ ?_
         refine uw_ 17 (some 65) (bm 41 262143) HT_ ?_
         refine uw_ 18 (some 66) (bm 41 524287) HT_ ?_
         refine pw_ 19 (some 67) (bm 41 1048575) HT_ ?_
         refine pw_ 20 (some 68) (bm 41 2097151) HT_ ?_
         refine pw_ 21 (some 69) (bm 41 4194303) HT_ ?_
         refine pw_ 22 (some 70) (bm 41 8388607) HT_ ?_
         refine pw_ 23 (some 71) (bm 41 16777215) HT_ ?_
         refine pw_ 24 (some 72) (bm 41 33554431) HT_ ?_
         refine uw_ 25 (some 73) (bm 41 67108863) HT_ ?_
         refine uw_ 26 (some 74) (bm 41 134217727) HT_ ?_
         refine uw_ 27 (some 75) (bm 41 268435455) HT_ ?_
         refine uw_ 28 (some 76) (bm 41 536870911) HT_ ?_
         refine uw_ 29 (some 77) (bm 41 1073741823) HT_ ?_
         refine uw_ 30 (some 78) (bm 41 2147483647) HT_ ?_
         refine uw_ 31 (some 79) (bm 41 4294967295) HT_ ?_
         refine uw_ 32 (some 80) (bm 41 8589934591) HT_ ?_
         refine uw_ 33 (some 81) (bm 41 17179869183) HT_ ?_
         refine uw_ 34 (some 82) (bm 41 34359738367) HT_ ?_
         refine uw_ 35 (some 83) (bm 41 68719476735) HT_ ?_
         refine uw_ 36 (some 84) (bm 41 137438953471) HT_ ?_
         refine uw_ 37 (some 85) (bm 41 274877906943) HT_ ?_
         refine uw_ 38 (some 86) (bm 41 549755813887) HT_ ?_
         refine pw_ 39 (some 87) (bm 41 1099511627775) HT_ ?_
         refine pw_ 40 (some 88) (bm 41 2199023255551) HT_ ?_
         refine done_ (done_of HT_.out (by kernel_rfl)) ?_
         try go_wp2
         go_meet
         case rel => exact ⟨_, (false), (by first | rfl | (simp; done) | (simp [*]; done)), H', ⟨by have := HJ5.out; first | omega | exact Nat.le_refl _⟩, ⟨ks HO_649000.out⟩, ⟨kq HO_650000.out⟩, ⟨kb BK648.out⟩, ⟨kb BK649.out⟩, ⟨kb BK652.out⟩, ⟨bw HB.out⟩⟩
     case rest =>
      clear HC32; (try clear c1); (try clear p2); (try clear c3); (try clear p6); (try clear c7); (try clear c14); (try clear c39); (try clear p64); (try clear c77); (try clear c77b0); (try clear c77b1)
      obtain ⟨kq, x88_31, rfl, HA, HJ31, HO_649000, HO_650000, BK648, BK649, BK652, HB⟩ := hcut
      cases kq with
      | zero => exact absurd HA.out (by simp [laws_FnFetched.j1])
      | succ kj31 =>
       have H := HA.out
       clear HA
       simp only [laws_FnFetched.j1] at H
       by_cases c85 : x88_31 = true
       ·subst c85
        have H1 : (some false) = some r := by rw [if_pos rfl] at H; exact H
        clear H
        have H := H1
        clear H1
        exact absurd ((Option.some.inj H).trans hrt) (by decide)
       ·replace c85 := Bool.eq_false_iff.mpr c85
        subst c85
        have H1 : ((spec_DrawAccess.f kj31 l0).bind fun bt671 => ((impl_Access.f kj31 bt671.1 bt671.2.1 bt671.2.2.1 bt671.2.2.2.1 bt671.2.2.2.2.1 bt671.2.2.2.2.2.1 bt671.2.2.2.2.2.2.1 bt671.2.2.2.2.2.2.2.1 bt671.2.2.2.2.2.2.2.2.1 bt671.2.2.2.2.2.2.2.2.2).bind fun bt683 => ((spec_Access.f kj31 bt671.1 bt671.2.1 bt671.2.2.1 bt671.2.2.2.1 bt671.2.2.2.2.1 bt671.2.2.2.2.2.1 bt671.2.2.2.2.2.2.1 bt671.2.2.2.2.2.2.2.1 bt671.2.2.2.2.2.2.2.2.1 bt671.2.2.2.2.2.2.2.2.2).bind fun bt686 => ((spec_DrawCpuNew.f kj31 l0).bind fun t689 => ((impl_CpuNew.f kj31 t689).bind fun bt693 => (if bt683.1 = bt686.1 then (if bt683.2.1 = bt686.2.1 then (if bt683.2.2 = bt686.2.2 then ((impl_OpAccess.f kj31 bt671.1).bind fun t702 => (if bt683.1 = t702 then (if bt683.2.1 ≥ 0 then (if bt683.2.1 ≤ 65535 then (if bt683.1 = 2 then ((spec_CpuNew.f kj31 t689).bind fun bt703 => (if (bt693.1 == bt703.1 && (bt693.2.1 == bt703.2.1 && (bt693.2.2.1 == bt703.2.2.1 && (bt693.2.2.2.1 == bt703.2.2.2.1 && (bt693.2.2.2.2.1 == bt703.2.2.2.2.1 && (bt693.2.2.2.2.2.1 == bt703.2.2.2.2.2.1 && (bt693.2.2.2.2.2.2.1 == bt703.2.2.2.2.2.2.1 && (bt693.2.2.2.2.2.2.2 == bt703.2.2.2.2.2.2.2)))))))) = true then (if bt693.2.2.1 = 255 then (some bt693.2.2.2.2.2.2.2) else (some false)) else (some false))) else (if bt683.2.2 = 0 then ((spec_CpuNew.f kj31 t689).bind fun bt711 => (if (bt693.1 == bt711.1 && (bt693.2.1 == bt711.2.1 && (bt693.2.2.1 == bt711.2.2.1 && (bt693.2.2.2.1 == bt711.2.2.2.1 && (bt693.2.2.2.2.1 == bt711.2.2.2.2.1 && (bt693.2.2.2.2.2.1 == bt711.2.2.2.2.2.1 && (bt693.2.2.2.2.2.2.1 == bt711.2.2.2.2.2.2.1 && (bt693.2.2.2.2.2.2.2 == bt711.2.2.2.2.2.2.2)))))))) = true then (if bt693.2.2.1 = 255 then (some bt693.2.2.2.2.2.2.2) else (some false)) else (some false))) else (some false))) else (some false)) else (some false)) else (some false))) else (some false)) else (some false)) else (some false))))))) = some r := by rw [if_neg (show ¬ (false = true) by decide)] at H; exact H
        clear H
        have H := H1
        clear H1
        replace H := Option.bind_eq_some_iff.mp H
        obtain ⟨⟨t671, t672, t673, t674, t675, t676, t677, t678, t679, t680⟩, A860, H⟩ := H
        replace H : ((impl_Access.f kj31 t671 t672 t673 t674 t675 t676 t677 t678 t679 t680).bind fun bt683 => ((spec_Access.f kj31 t671 t672 t673 t674 t675 t676 t677 t678 t679 t680).bind fun bt686 => ((spec_DrawCpuNew.f kj31 l0).bind fun t689 => ((impl_CpuNew.f kj31 t689).bind fun bt693 => (if bt683.1 = bt686.1 then (if bt683.2.1 = bt686.2.1 then (if bt683.2.2 = bt686.2.2 then ((impl_OpAccess.f kj31 t671).bind fun t702 => (if bt683.1 = t702 then (if bt683.2.1 ≥ 0 then (if bt683.2.1 ≤ 65535 then (if bt683.1 = 2 then ((spec_CpuNew.f kj31 t689).bind fun bt703 => (if (bt693.1 == bt703.1 && (bt693.2.1 == bt703.2.1 && (bt693.2.2.1 == bt703.2.2.1 && (bt693.2.2.2.1 == bt703.2.2.2.1 && (bt693.2.2.2.2.1 == bt703.2.2.2.2.1 && (bt693.2.2.2.2.2.1 == bt703.2.2.2.2.2.1 && (bt693.2.2.2.2.2.2.1 == bt703.2.2.2.2.2.2.1 && (bt693.2.2.2.2.2.2.2 == bt703.2.2.2.2.2.2.2)))))))) = true then (if bt693.2.2.1 = 255 then (some bt693.2.2.2.2.2.2.2) else (some false)) else (some false))) else (if bt683.2.2 = 0 then ((spec_CpuNew.f kj31 t689).bind fun bt711 => (if (bt693.1 == bt711.1 && (bt693.2.1 == bt711.2.1 && (bt693.2.2.1 == bt711.2.2.1 && (bt693.2.2.2.1 == bt711.2.2.2.1 && (bt693.2.2.2.2.1 == bt711.2.2.2.2.1 && (bt693.2.2.2.2.2.1 == bt711.2.2.2.2.2.1 && (bt693.2.2.2.2.2.2.1 == bt711.2.2.2.2.2.2.1 && (bt693.2.2.2.2.2.2.2 == bt711.2.2.2.2.2.2.2)))))))) = true then (if bt693.2.2.1 = 255 then (some bt693.2.2.2.2.2.2.2) else (some false)) else (some false))) else (some false))) else (some false)) else (some false)) else (some false))) else (some false)) else (some false)) else (some false)))))) = some r := H
        have A86 := Aside0.mk A860
        clear A860
        replace H := Option.bind_eq_some_iff.mp H
        obtain ⟨⟨t683, t684, t685⟩, A870, H⟩ := H
        replace H : ((spec_Access.f kj31 t671 t672 t673 t674 t675 t676 t677 t678 t679 t680).bind fun bt686 => ((spec_DrawCpuNew.f kj31 l0).bind fun t689 => ((impl_CpuNew.f kj31 t689).bind fun bt693 => (if t683 = bt686.1 then (if t684 = bt686.2.1 then (if t685 = bt686.2.2 then ((impl_OpAccess.f kj31 t671).bind fun t702 => (if t683 = t702 then (if t684 ≥ 0 then (if t684 ≤ 65535 then (if t683 = 2 then ((spec_CpuNew.f kj31 t689).bind fun bt703 => (if (bt693.1 == bt703.1 && (bt693.2.1 == bt703.2.1 && (bt693.2.2.1 == bt703.2.2.1 && (bt693.2.2.2.1 == bt703.2.2.2.1 && (bt693.2.2.2.2.1 == bt703.2.2.2.2.1 && (bt693.2.2.2.2.2.1 == bt703.2.2.2.2.2.1 && (bt693.2.2.2.2.2.2.1 == bt703.2.2.2.2.2.2.1 && (bt693.2.2.2.2.2.2.2 == bt703.2.2.2.2.2.2.2)))))))) = true then (if bt693.2.2.1 = 255 then (some bt693.2.2.2.2.2.2.2) else (some false)) else (some false))) else (if t685 = 0 then ((spec_CpuNew.f kj31 t689).bind fun bt711 => (if (bt693.1 == bt711.1 && (bt693.2.1 == bt711.2.1 && (bt693.2.2.1 == bt711.2.2.1 && (bt693.2.2.2.1 == bt711.2.2.2.1 && (bt693.2.2.2.2.1 == bt711.2.2.2.2.1 && (bt693.2.2.2.2.2.1 == bt711.2.2.2.2.2.1 && (bt693.2.2.2.2.2.2.1 == bt711.2.2.2.2.2.2.1 && (bt693.2.2.2.2.2.2.2 == bt711.2.2.2.2.2.2.2)))))))) = true then (if bt693.2.2.1 = 255 then (some bt693.2.2.2.2.2.2.2) else (some false)) else (some false))) else (some false))) else (some false)) else (some false)) else (some false))) else (some false)) else (some false)) else (some false))))) = some r := H
        have A87 := Aside0.mk A870
        clear A870
        replace H := Option.bind_eq_some_iff.mp H
        obtain ⟨⟨t686, t687, t688⟩, A880, H⟩ := H
        replace H : ((spec_DrawCpuNew.f kj31 l0).bind fun t689 => ((impl_CpuNew.f kj31 t689).bind fun bt693 => (if t683 = t686 then (if t684 = t687 then (if t685 = t688 then ((impl_OpAccess.f kj31 t671).bind fun t702 => (if t683 = t702 then (if t684 ≥ 0 then (if t684 ≤ 65535 then (if t683 = 2 then ((spec_CpuNew.f kj31 t689).bind fun bt703 => (if (bt693.1 == bt703.1 && (bt693.2.1 == bt703.2.1 && (bt693.2.2.1 == bt703.2.2.1 && (bt693.2.2.2.1 == bt703.2.2.2.1 && (bt693.2.2.2.2.1 == bt703.2.2.2.2.1 && (bt693.2.2.2.2.2.1 == bt703.2.2.2.2.2.1 && (bt693.2.2.2.2.2.2.1 == bt703.2.2.2.2.2.2.1 && (bt693.2.2.2.2.2.2.2 == bt703.2.2.2.2.2.2.2)))))))) = true then (if bt693.2.2.1 = 255 then (some bt693.2.2.2.2.2.2.2) else (some false)) else (some false))) else (if t685 = 0 then ((spec_CpuNew.f kj31 t689).bind fun bt711 => (if (bt693.1 == bt711.1 && (bt693.2.1 == bt711.2.1 && (bt693.2.2.1 == bt711.2.2.1 && (bt693.2.2.2.1 == bt711.2.2.2.1 && (bt693.2.2.2.2.1 == bt711.2.2.2.2.1 && (bt693.2.2.2.2.2.1 == bt711.2.2.2.2.2.1 && (bt693.2.2.2.2.2.2.1 == bt711.2.2.2.2.2.2.1 && (bt693.2.2.2.2.2.2.2 == bt711.2.2.2.2.2.2.2)))))))) = true then (if bt693.2.2.1 = 255 then (some bt693.2.2.2.2.2.2.2) else (some false)) else (some false))) else (some false))) else (some false)) else (some false)) else (some false))) else (some false)) else (some false)) else (some false)))) = some r := H
        have A88 := Aside0.mk A880
        clear A880
        replace H := Option.bind_eq_some_iff.mp H
        obtain ⟨t689, A890, H⟩ := H
        replace H : ((impl_CpuNew.f kj31 t689).bind fun bt693 => (if t683 = t686 then (if t684 = t687 then (if t685 = t688 then ((impl_OpAccess.f kj31 t671).bind fun t702 => (if t683 = t702 then (if t684 ≥ 0 then (if t684 ≤ 65535 then (if t683 = 2 then ((spec_CpuNew.f kj31 t689).bind fun bt703 => (if (bt693.1 == bt703.1 && (bt693.2.1 == bt703.2.1 && (bt693.2.2.1 == bt703.2.2.1 && (bt693.2.2.2.1 == bt703.2.2.2.1 && (bt693.2.2.2.2.1 == bt703.2.2.2.2.1 && (bt693.2.2.2.2.2.1 == bt703.2.2.2.2.2.1 && (bt693.2.2.2.2.2.2.1 == bt703.2.2.2.2.2.2.1 && (bt693.2.2.2.2.2.2.2 == bt703.2.2.2.2.2.2.2)))))))) = true then (if bt693.2.2.1 = 255 then (some bt693.2.2.2.2.2.2.2) else (some false)) else (some false))) else (if t685 = 0 then ((spec_CpuNew.f kj31 t689).bind fun bt711 => (if (bt693.1 == bt711.1 && (bt693.2.1 == bt711.2.1 && (bt693.2.2.1 == bt711.2.2.1 && (bt693.2.2.2.1 == bt711.2.2.2.1 && (bt693.2.2.2.2.1 == bt711.2.2.2.2.1 && (bt693.2.2.2.2.2.1 == bt711.2.2.2.2.2.1 && (bt693.2.2.2.2.2.2.1 == bt711.2.2.2.2.2.2.1 && (bt693.2.2.2.2.2.2.2 == bt711.2.2.2.2.2.2.2)))))))) = true then (if bt693.2.2.1 = 255 then (some bt693.2.2.2.2.2.2.2) else (some false)) else (some false))) else (some false))) else (some false)) else (some false)) else (some false))) else (some false)) else (some false)) else (some false))) = some r := H
        have A89 := Aside0.mk A890
        clear A890
        replace H := Option.bind_eq_some_iff.mp H
        obtain ⟨⟨t693, t694, t695, t696, t697, t698, t699, t700⟩, A900, H⟩ := H
        replace H : (if t683 = t686 then (if t684 = t687 then (if t685 = t688 then ((impl_OpAccess.f kj31 t671).bind fun t702 => (if t683 = t702 then (if t684 ≥ 0 then (if t684 ≤ 65535 then (if t683 = 2 then ((spec_CpuNew.f kj31 t689).bind fun bt703 => (if (t693 == bt703.1 && (t694 == bt703.2.1 && (t695 == bt703.2.2.1 && (t696 == bt703.2.2.2.1 && (t697 == bt703.2.2.2.2.1 && (t698 == bt703.2.2.2.2.2.1 && (t699 == bt703.2.2.2.2.2.2.1 && (t700 == bt703.2.2.2.2.2.2.2)))))))) = true then (if t695 = 255 then (some t700) else (some false)) else (some false))) else (if t685 = 0 then ((spec_CpuNew.f kj31 t689).bind fun bt711 => (if (t693 == bt711.1 && (t694 == bt711.2.1 && (t695 == bt711.2.2.1 && (t696 == bt711.2.2.2.1 && (t697 == bt711.2.2.2.2.1 && (t698 == bt711.2.2.2.2.2.1 && (t699 == bt711.2.2.2.2.2.2.1 && (t700 == bt711.2.2.2.2.2.2.2)))))))) = true then (if t695 = 255 then (some t700) else (some false)) else (some false))) else (some false))) else (some false)) else (some false)) else (some false))) else (some false)) else (some false)) else (some false)) = some r := H
        have A90 := Aside0.mk A900
        clear A900
        by_cases c91 : t683 = t686
        ·rw [if_pos c91] at H
         have c91b0 : (t683 == t686) = true := beq_iff_eq.mpr c91
         have c91b1 : (t683 != t686) = false := bne_eq_false_iff_eq.mpr c91
         clear c91
         by_cases c92 : t684 = t687
         ·rw [if_pos c92] at H
          have c92b0 : (t684 == t687) = true := beq_iff_eq.mpr c92
          have c92b1 : (t684 != t687) = false := bne_eq_false_iff_eq.mpr c92
          clear c92
          by_cases c93 : t685 = t688
          ·rw [if_pos c93] at H
           have c93b0 : (t685 == t688) = true := beq_iff_eq.mpr c93
           have c93b1 : (t685 != t688) = false := bne_eq_false_iff_eq.mpr c93
           clear c93
           replace H := Option.bind_eq_some_iff.mp H
           obtain ⟨t702, A940, H⟩ := H
           replace H : (if t683 = t702 then (if t684 ≥ 0 then (if t684 ≤ 65535 then (if t683 = 2 then ((spec_CpuNew.f kj31 t689).bind fun bt703 => (if (t693 == bt703.1 && (t694 == bt703.2.1 && (t695 == bt703.2.2.1 && (t696 == bt703.2.2.2.1 && (t697 == bt703.2.2.2.2.1 && (t698 == bt703.2.2.2.2.2.1 && (t699 == bt703.2.2.2.2.2.2.1 && (t700 == bt703.2.2.2.2.2.2.2)))))))) = true then (if t695 = 255 then (some t700) else (some false)) else (some false))) else (if t685 = 0 then ((spec_CpuNew.f kj31 t689).bind fun bt711 => (if (t693 == bt711.1 && (t694 == bt711.2.1 && (t695 == bt711.2.2.1 && (t696 == bt711.2.2.2.1 && (t697 == bt711.2.2.2.2.1 && (t698 == bt711.2.2.2.2.2.1 && (t699 == bt711.2.2.2.2.2.2.1 && (t700 == bt711.2.2.2.2.2.2.2)))))))) = true then (if t695 = 255 then (some t700) else (some false)) else (some false))) else (some false))) else (some false)) else (some false)) else (some false)) = some r := H
           have A94 := Aside0.mk A940
           clear A940
           by_cases c95 : t683 = t702
           ·rw [if_pos c95] at H
            have c95b0 : (t683 == t702) = true := beq_iff_eq.mpr c95
            have c95b1 : (t683 != t702) = false := bne_eq_false_iff_eq.mpr c95
            clear c95
            by_cases c96 : t684 ≥ 0
            ·rw [if_pos c96] at H
             have c96b0 : decide (0 ≤ t684) = true := decide_eq_true c96
             clear c96
             by_cases c97 : t684 ≤ 65535
             ·rw [if_pos c97] at H
              have c97b0 : decide (t684 ≤ 65535) = true := decide_eq_true c97
              clear c97
              by_cases c98 : t683 = 2
              ·rw [if_pos c98] at H
               have c98b0 : (t683 == 2) = true := beq_iff_eq.mpr c98
               have c98b1 : (t683 != 2) = false := bne_eq_false_iff_eq.mpr c98
               clear c98
               replace H := Option.bind_eq_some_iff.mp H
               obtain ⟨⟨t703, t704, t705, t706, t707, t708, t709, t710⟩, A990, H⟩ := H
               replace H : (if (t693 == t703 && (t694 == t704 && (t695 == t705 && (t696 == t706 && (t697 == t707 && (t698 == t708 && (t699 == t709 && (t700 == t710)))))))) = true then (if t695 = 255 then (some t700) else (some false)) else (some false)) = some r := H
               have A99 := Aside0.mk A990
               clear A990
               by_cases c100 : (t693 == t703 && (t694 == t704 && (t695 == t705 && (t696 == t706 && (t697 == t707 && (t698 == t708 && (t699 == t709 && (t700 == t710)))))))) = true
               ·rw [if_pos c100] at H
                have q_ : t693 = t703 ∧ t694 = t704 ∧ t695 = t705 ∧ t696 = t706 ∧ t697 = t707 ∧ t698 = t708 ∧ t699 = t709 ∧ t700 = t710 := by simpa using c100
                obtain ⟨rfl, rfl, rfl, rfl, rfl, rfl, rfl, rfl⟩ := q_
                clear c100
                by_cases c101 : t695 = 255
                ·rw [if_pos c101] at H
                 have c101b0 : (t695 == 255) = true := beq_iff_eq.mpr c101
                 have c101b1 : (t695 != 255) = false := bne_eq_false_iff_eq.mpr c101
                 clear c101; clear hrt
                 obtain rfl := Option.some.inj H
                 try go_wp2_with (first | ((with_reducible refine gate_callee (f := 40) rfl ?_); refine goesM_ (some 91) rfl rfl Try.func40 #[.slice A0 l0.length c0] ?_; (with_reducible refine (spec_DrawAccess.calls kj31 _ _ l0 t671 t672 t673 t674 t675 t676 t677 t678 t679 t680 _ ?side1 ?side2 A86.out).mono ?_); (case side1 => exact kc (Kd.C_below HR0.out HB.out)); (case side2 => exact HC0.out); rintro e w102 ⟨rfl, hb⟩; refine ⟨_, rfl, ?_⟩; have n0_ := Aside0.mk (Kd.S_below (ks HO_649000.out) hb); have n1_ := Aside0.mk (Kd.Q_below (kq HO_650000.out) hb); have n2_ := Aside0.mk (blk_below (g := gb648) (o := .cells #[.slice Ao10 t640.length co10] 29 (0, 0)) (kb BK648.out) hb); have n3_ := Aside0.mk (blk_below (g := gb649) (o := .cells #[.slice Ao13 t643.length co13, .int .i64 t646] 32 (0, 0)) (kb BK649.out) hb); have n4_ := Aside0.mk (blk_below (g := gb652) (o := .cells #[.int .i64 t650, .int .i64 t651] 51 (0, 0)) (kb BK652.out) hb); have n5_ := Aside0.mk (below_step (bw HB.out) hb); clear HO_649000; clear HO_650000; clear BK648; clear BK649; clear BK652; clear HB; have HO_649000 := n0_; have HO_650000 := n1_; have BK648 := n2_; have BK649 := n3_; have BK652 := n4_; have HB := n5_; clear n0_ n1_ n2_ n3_ n4_ n5_; (try clear hb); (try clear hb2); (try clear hk); (try clear hi)) | ((with_reducible refine gate_dst (N := 8) rfl ?_); refine bx (N := 8) (cs := #[.int .i64 0, .int .i64 0]) (t := 51) ?_; intro gb681 hg w103 hbox hb; have n0_ := Aside0.mk (Kd.S_below (ks HO_649000.out) hb); have n1_ := Aside0.mk (Kd.Q_below (kq HO_650000.out) hb); have n2_ := Aside0.mk (blk_below (g := gb648) (o := .cells #[.slice Ao10 t640.length co10] 29 (0, 0)) (kb BK648.out) hb); have n3_ := Aside0.mk (blk_below (g := gb649) (o := .cells #[.slice Ao13 t643.length co13, .int .i64 t646] 32 (0, 0)) (kb BK649.out) hb); have n4_ := Aside0.mk (blk_below (g := gb652) (o := .cells #[.int .i64 t650, .int .i64 t651] 51 (0, 0)) (kb BK652.out) hb); have n5_ := Aside0.mk (below_step (bw HB.out) hb); have n6_ := Aside0.mk (hbox); have n7_ := Aside0.mk ((gs hg (bw HB.out))); have n8_ := Aside0.mk ((gs hg (bw HB.out))); have n9_ := Aside0.mk ((ga hg BK648.out)); have n10_ := Aside0.mk ((gc hg BK648.out)); have n11_ := Aside0.mk ((ga hg BK649.out)); have n12_ := Aside0.mk ((gc hg BK649.out)); have n13_ := Aside0.mk ((ga hg BK652.out)); have n14_ := Aside0.mk ((gc hg BK652.out)); clear HO_649000; clear HO_650000; clear BK648; clear BK649; clear BK652; clear HB; have HO_649000 := n0_; have HO_650000 := n1_; have BK648 := n2_; have BK649 := n3_; have BK652 := n4_; have HB := n5_; have BK681 := n6_; have GW681 := n7_; have GE681 := n8_; have NB648_681 := n9_; have NB681_648 := n10_; have NB649_681 := n11_; have NB681_649 := n12_; have NB652_681 := n13_; have NB681_652 := n14_; clear n0_ n1_ n2_ n3_ n4_ n5_ n6_ n7_ n8_ n9_ n10_ n11_ n12_ n13_ n14_; clear hb hbox hg) | ((with_reducible refine gate_dst (N := 9) rfl ?_); refine bx (N := 9) (cs := #[.int .i64 0, .int .i64 0, .int .i64 0, .int .i64 0, .bool false, .bool false, .bool false, .bool false]) (t := 55) ?_; intro gb682 hg w104 hbox hb; have n0_ := Aside0.mk (Kd.S_below (ks HO_649000.out) hb); have n1_ := Aside0.mk (Kd.Q_below (kq HO_650000.out) hb); have n2_ := Aside0.mk (blk_below (g := gb648) (o := .cells #[.slice Ao10 t640.length co10] 29 (0, 0)) (kb BK648.out) hb); have n3_ := Aside0.mk (blk_below (g := gb649) (o := .cells #[.slice Ao13 t643.length co13, .int .i64 t646] 32 (0, 0)) (kb BK649.out) hb); have n4_ := Aside0.mk (blk_below (g := gb652) (o := .cells #[.int .i64 t650, .int .i64 t651] 51 (0, 0)) (kb BK652.out) hb); have n5_ := Aside0.mk (blk_below (g := gb681) (o := .cells #[.int .i64 0, .int .i64 0] 51 (0, 0)) (kb BK681.out) hb); have n6_ := Aside0.mk (below_step (bw HB.out) hb); have n7_ := Aside0.mk (hbox); have n8_ := Aside0.mk ((gs hg (bw HB.out))); have n9_ := Aside0.mk ((gs hg (bw HB.out))); have n10_ := Aside0.mk ((ga hg BK648.out)); have n11_ := Aside0.mk ((gc hg BK648.out)); have n12_ := Aside0.mk ((ga hg BK649.out)); have n13_ := Aside0.mk ((gc hg BK649.out)); have n14_ := Aside0.mk ((ga hg BK652.out)); have n15_ := Aside0.mk ((gc hg BK652.out)); have n16_ := Aside0.mk ((ga hg BK681.out)); have n17_ := Aside0.mk ((gc hg BK681.out)); clear HO_649000; clear HO_650000; clear BK648; clear BK649; clear BK652; clear BK681; clear HB; have HO_649000 := n0_; have HO_650000 := n1_; have BK648 := n2_; have BK649 := n3_; have BK652 := n4_; have BK681 := n5_; have HB := n6_; have BK682 := n7_; have GW682 := n8_; have GE682 := n9_; have NB648_682 := n10_; have NB682_648 := n11_; have NB649_682 := n12_; have NB682_649 := n13_; have NB652_682 := n14_; have NB682_652 := n15_; have NB681_682 := n16_; have NB682_681 := n17_; clear n0_ n1_ n2_ n3_ n4_ n5_ n6_ n7_ n8_ n9_ n10_ n11_ n12_ n13_ n14_ n15_ n16_ n17_; clear hb hbox hg; have hnb105 := NB681_648.out; have hnc105 := NB648_681.out; have hnb106 := NB681_649.out; have hnc106 := NB649_681.out; have hnb107 := NB681_652.out; have hnc107 := NB652_681.out; have hnb108 := NB681_682.out; have hnc108 := NB682_681.out; have hcz109_0 : w104.cell? ⟨gb681, 0, none⟩ = some (.int .i64 0) := cl BK681 0; have hcz109_1 : w104.cell? ⟨gb681, 1, none⟩ = some (.int .i64 0) := cl BK681 1; have hfz109_0 := blk_frozen BK681.out 0; have hfz109_1 := blk_frozen BK681.out 1; have hnb110 := NB682_648.out; have hnc110 := NB648_682.out; have hnb111 := NB682_649.out; have hnc111 := NB649_682.out; have hnb112 := NB682_652.out; have hnc112 := NB652_682.out; have hcz113_0 : w104.cell? ⟨gb682, 0, none⟩ = some (.int .i64 0) := cl BK682 0; have hcz113_1 : w104.cell? ⟨gb682, 1, none⟩ = some (.int .i64 0) := cl BK682 1; have hcz113_2 : w104.cell? ⟨gb682, 2, none⟩ = some (.int .i64 0) := cl BK682 2; have hcz113_3 : w104.cell? ⟨gb682, 3, none⟩ = some (.int .i64 0) := cl BK682 3; have hcz113_4 : w104.cell? ⟨gb682, 4, none⟩ = some (.bool false) := cl BK682 4; have hcz113_5 : w104.cell? ⟨gb682, 5, none⟩ = some (.bool false) := cl BK682 5; have hcz113_6 : w104.cell? ⟨gb682, 6, none⟩ = some (.bool false) := cl BK682 6; have hcz113_7 : w104.cell? ⟨gb682, 7, none⟩ = some (.bool false) := cl BK682 7; have hfz113_0 := blk_frozen BK682.out 0; have hfz113_1 := blk_frozen BK682.out 1; have hfz113_2 := blk_frozen BK682.out 2; have hfz113_3 := blk_frozen BK682.out 3; have hfz113_4 := blk_frozen BK682.out 4; have hfz113_5 := blk_frozen BK682.out 5; have hfz113_6 := blk_frozen BK682.out 6; have hfz113_7 := blk_frozen BK682.out 7) | ((with_reducible refine gate_callee (f := 41) rfl ?_); refine goesM_ (some 97) rfl rfl Try.func41 #[.agg #[.int .i64 t671, .int .i64 t672], .agg #[.int .i64 t673, .int .i64 t674, .int .i64 t675, .int .i64 t676, .bool t677, .bool t678, .bool t679, .bool t680]] ?_; (with_reducible refine (impl_Access.calls kj31 t671 t672 t673 t674 t675 t676 t677 t678 t679 t680 t683 t684 t685 _ A87.out).mono ?_); rintro e w114 ⟨rfl, hb⟩; refine ⟨_, rfl, ?_⟩; have n0_ := Aside0.mk (Kd.S_below (ks ((Kd.S_mono (Kd.S_mono (Kd.S_far (p := ⟨gb682, 7, none⟩) (Kd.S_far (p := ⟨gb682, 6, none⟩) (Kd.S_far (p := ⟨gb682, 5, none⟩) (Kd.S_far (p := ⟨gb682, 4, none⟩) (Kd.S_far (p := ⟨gb682, 3, none⟩) (Kd.S_far (p := ⟨gb682, 2, none⟩) (Kd.S_far (p := ⟨gb682, 1, none⟩) (Kd.S_far (p := ⟨gb682, 0, none⟩) (Kd.S_far (p := ⟨gb681, 1, none⟩) (Kd.S_far (p := ⟨gb681, 0, none⟩) (Kd.S_types (Kd.S_types HO_649000.out BK681.out (by decide)) BK682.out (by decide)) (fun _ hk => hk.1.2) (.int .i64 t671)) (fun _ hk => hk.1.2) (.int .i64 t672)) (fun _ hk => hk.2) (.int .i64 t673)) (fun _ hk => hk.2) (.int .i64 t674)) (fun _ hk => hk.2) (.int .i64 t675)) (fun _ hk => hk.2) (.int .i64 t676)) (fun _ hk => hk.2) (.bool t677)) (fun _ hk => hk.2) (.bool t678)) (fun _ hk => hk.2) (.bool t679)) (fun _ hk => hk.2) (.bool t680)) (fun _ h_ => h_.1)) (fun _ h_ => h_.1)))) hb); have n1_ := Aside0.mk (Kd.Q_below (kq ((Kd.Q_mono (Kd.Q_mono (Kd.Q_far (p := ⟨gb682, 7, none⟩) (Kd.Q_far (p := ⟨gb682, 6, none⟩) (Kd.Q_far (p := ⟨gb682, 5, none⟩) (Kd.Q_far (p := ⟨gb682, 4, none⟩) (Kd.Q_far (p := ⟨gb682, 3, none⟩) (Kd.Q_far (p := ⟨gb682, 2, none⟩) (Kd.Q_far (p := ⟨gb682, 1, none⟩) (Kd.Q_far (p := ⟨gb682, 0, none⟩) (Kd.Q_far (p := ⟨gb681, 1, none⟩) (Kd.Q_far (p := ⟨gb681, 0, none⟩) (Kd.Q_types (Kd.Q_types HO_650000.out BK681.out (by decide)) BK682.out (by decide)) (fun _ hk => hk.1.2) (.int .i64 t671)) (fun _ hk => hk.1.2) (.int .i64 t672)) (fun _ hk => hk.2) (.int .i64 t673)) (fun _ hk => hk.2) (.int .i64 t674)) (fun _ hk => hk.2) (.int .i64 t675)) (fun _ hk => hk.2) (.int .i64 t676)) (fun _ hk => hk.2) (.bool t677)) (fun _ hk => hk.2) (.bool t678)) (fun _ hk => hk.2) (.bool t679)) (fun _ hk => hk.2) (.bool t680)) (fun _ h_ => h_.1)) (fun _ h_ => h_.1)))) hb); have n2_ := Aside0.mk (blk_below (g := gb648) (o := .cells #[.slice Ao10 t640.length co10] 29 (0, 0)) (kf BK648.out) hb); have n3_ := Aside0.mk (blk_below (g := gb649) (o := .cells #[.slice Ao13 t643.length co13, .int .i64 t646] 32 (0, 0)) (kf BK649.out) hb); have n4_ := Aside0.mk (blk_below (g := gb652) (o := .cells #[.int .i64 t650, .int .i64 t651] 51 (0, 0)) (kf BK652.out) hb); have n5_ := Aside0.mk (blk_below (g := gb681) (o := .cells #[.int .i64 t671, .int .i64 t672] 51 (0, 0)) (by (with_reducible repeat (first | refine blk_drewN ?_ _ | refine blk_drew ?_ | refine blk_alloc ?_ _)); refine blk_far ?_ NB681_682.out _; (with_reducible repeat (first | refine blk_drewN ?_ _ | refine blk_drew ?_ | refine blk_alloc ?_ _)); refine blk_far ?_ NB681_682.out _; (with_reducible repeat (first | refine blk_drewN ?_ _ | refine blk_drew ?_ | refine blk_alloc ?_ _)); refine blk_far ?_ NB681_682.out _; (with_reducible repeat (first | refine blk_drewN ?_ _ | refine blk_drew ?_ | refine blk_alloc ?_ _)); refine blk_far ?_ NB681_682.out _; (with_reducible repeat (first | refine blk_drewN ?_ _ | refine blk_drew ?_ | refine blk_alloc ?_ _)); refine blk_far ?_ NB681_682.out _; (with_reducible repeat (first | refine blk_drewN ?_ _ | refine blk_drew ?_ | refine blk_alloc ?_ _)); refine blk_far ?_ NB681_682.out _; (with_reducible repeat (first | refine blk_drewN ?_ _ | refine blk_drew ?_ | refine blk_alloc ?_ _)); refine blk_far ?_ NB681_682.out _; (with_reducible repeat (first | refine blk_drewN ?_ _ | refine blk_drew ?_ | refine blk_alloc ?_ _)); refine blk_far ?_ NB681_682.out _; (with_reducible repeat (first | refine blk_drewN ?_ _ | refine blk_drew ?_ | refine blk_alloc ?_ _)); refine blk_put (cs := #[.int .i64 t671, .int .i64 0]) ?_ 1 _ rfl; (with_reducible repeat (first | refine blk_drewN ?_ _ | refine blk_drew ?_ | refine blk_alloc ?_ _)); refine blk_put (cs := #[.int .i64 0, .int .i64 0]) ?_ 0 _ rfl; (with_reducible repeat (first | refine blk_drewN ?_ _ | refine blk_drew ?_ | refine blk_alloc ?_ _)); exact BK681.out) hb); have n6_ := Aside0.mk (blk_below (g := gb682) (o := .cells #[.int .i64 t673, .int .i64 t674, .int .i64 t675, .int .i64 t676, .bool t677, .bool t678, .bool t679, .bool t680] 55 (0, 0)) (by (with_reducible repeat (first | refine blk_drewN ?_ _ | refine blk_drew ?_ | refine blk_alloc ?_ _)); refine blk_put (cs := #[.int .i64 t673, .int .i64 t674, .int .i64 t675, .int .i64 t676, .bool t677, .bool t678, .bool t679, .bool false]) ?_ 7 _ rfl; (with_reducible repeat (first | refine blk_drewN ?_ _ | refine blk_drew ?_ | refine blk_alloc ?_ _)); refine blk_put (cs := #[.int .i64 t673, .int .i64 t674, .int .i64 t675, .int .i64 t676, .bool t677, .bool t678, .bool false, .bool false]) ?_ 6 _ rfl; (with_reducible repeat (first | refine blk_drewN ?_ _ | refine blk_drew ?_ | refine blk_alloc ?_ _)); refine blk_put (cs := #[.int .i64 t673, .int .i64 t674, .int .i64 t675, .int .i64 t676, .bool t677, .bool false, .bool false, .bool false]) ?_ 5 _ rfl; (with_reducible repeat (first | refine blk_drewN ?_ _ | refine blk_drew ?_ | refine blk_alloc ?_ _)); refine blk_put (cs := #[.int .i64 t673, .int .i64 t674, .int .i64 t675, .int .i64 t676, .bool false, .bool false, .bool false, .bool false]) ?_ 4 _ rfl; (with_reducible repeat (first | refine blk_drewN ?_ _ | refine blk_drew ?_ | refine blk_alloc ?_ _)); refine blk_put (cs := #[.int .i64 t673, .int .i64 t674, .int .i64 t675, .int .i64 0, .bool false, .bool false, .bool false, .bool false]) ?_ 3 _ rfl; (with_reducible repeat (first | refine blk_drewN ?_ _ | refine blk_drew ?_ | refine blk_alloc ?_ _)); refine blk_put (cs := #[.int .i64 t673, .int .i64 t674, .int .i64 0, .int .i64 0, .bool false, .bool false, .bool false, .bool false]) ?_ 2 _ rfl; (with_reducible repeat (first | refine blk_drewN ?_ _ | refine blk_drew ?_ | refine blk_alloc ?_ _)); refine blk_put (cs := #[.int .i64 t673, .int .i64 0, .int .i64 0, .int .i64 0, .bool false, .bool false, .bool false, .bool false]) ?_ 1 _ rfl; (with_reducible repeat (first | refine blk_drewN ?_ _ | refine blk_drew ?_ | refine blk_alloc ?_ _)); refine blk_put (cs := #[.int .i64 0, .int .i64 0, .int .i64 0, .int .i64 0, .bool false, .bool false, .bool false, .bool false]) ?_ 0 _ rfl; (with_reducible repeat (first | refine blk_drewN ?_ _ | refine blk_drew ?_ | refine blk_alloc ?_ _)); refine blk_far ?_ NB682_681.out _; (with_reducible repeat (first | refine blk_drewN ?_ _ | refine blk_drew ?_ | refine blk_alloc ?_ _)); refine blk_far ?_ NB682_681.out _; (with_reducible repeat (first | refine blk_drewN ?_ _ | refine blk_drew ?_ | refine blk_alloc ?_ _)); exact BK682.out) hb); have n7_ := Aside0.mk (below_step (bw HB.out) hb); clear HO_649000; clear HO_650000; clear BK648; clear BK649; clear BK652; clear BK681; clear BK682; clear HB; have HO_649000 := n0_; have HO_650000 := n1_; have BK648 := n2_; have BK649 := n3_; have BK652 := n4_; have BK681 := n5_; have BK682 := n6_; have HB := n7_; clear n0_ n1_ n2_ n3_ n4_ n5_ n6_ n7_; (try clear hb); (try clear hb2); (try clear hk); (try clear hi); have hcz115_0 : w114.cell? ⟨gb681, 0, none⟩ = some (.int .i64 t671) := cl BK681 0; have hcz115_1 : w114.cell? ⟨gb681, 1, none⟩ = some (.int .i64 t672) := cl BK681 1; have hfz115_0 := blk_frozen BK681.out 0; have hfz115_1 := blk_frozen BK681.out 1; have hcz116_0 : w114.cell? ⟨gb682, 0, none⟩ = some (.int .i64 t673) := cl BK682 0; have hcz116_1 : w114.cell? ⟨gb682, 1, none⟩ = some (.int .i64 t674) := cl BK682 1; have hcz116_2 : w114.cell? ⟨gb682, 2, none⟩ = some (.int .i64 t675) := cl BK682 2; have hcz116_3 : w114.cell? ⟨gb682, 3, none⟩ = some (.int .i64 t676) := cl BK682 3; have hcz116_4 : w114.cell? ⟨gb682, 4, none⟩ = some (.bool t677) := cl BK682 4; have hcz116_5 : w114.cell? ⟨gb682, 5, none⟩ = some (.bool t678) := cl BK682 5; have hcz116_6 : w114.cell? ⟨gb682, 6, none⟩ = some (.bool t679) := cl BK682 6; have hcz116_7 : w114.cell? ⟨gb682, 7, none⟩ = some (.bool t680) := cl BK682 7; have hfz116_0 := blk_frozen BK682.out 0; have hfz116_1 := blk_frozen BK682.out 1; have hfz116_2 := blk_frozen BK682.out 2; have hfz116_3 := blk_frozen BK682.out 3; have hfz116_4 := blk_frozen BK682.out 4; have hfz116_5 := blk_frozen BK682.out 5; have hfz116_6 := blk_frozen BK682.out 6; have hfz116_7 := blk_frozen BK682.out 7) | ((with_reducible refine gate_callee (f := 42) rfl ?_); refine goesM_ (some 104) rfl rfl Try.func42 #[.agg #[.int .i64 t671, .int .i64 t672], .agg #[.int .i64 t673, .int .i64 t674, .int .i64 t675, .int .i64 t676, .bool t677, .bool t678, .bool t679, .bool t680]] ?_; (with_reducible refine (spec_Access.calls kj31 t671 t672 t673 t674 t675 t676 t677 t678 t679 t680 t686 t687 t688 _ A88.out).mono ?_); rintro e w117 ⟨rfl, hb⟩; refine ⟨_, rfl, ?_⟩; have n0_ := Aside0.mk (Kd.S_below (ks HO_649000.out) hb); have n1_ := Aside0.mk (Kd.Q_below (kq HO_650000.out) hb); have n2_ := Aside0.mk (blk_below (g := gb648) (o := .cells #[.slice Ao10 t640.length co10] 29 (0, 0)) (kb BK648.out) hb); have n3_ := Aside0.mk (blk_below (g := gb649) (o := .cells #[.slice Ao13 t643.length co13, .int .i64 t646] 32 (0, 0)) (kb BK649.out) hb); have n4_ := Aside0.mk (blk_below (g := gb652) (o := .cells #[.int .i64 t650, .int .i64 t651] 51 (0, 0)) (kb BK652.out) hb); have n5_ := Aside0.mk (blk_below (g := gb681) (o := .cells #[.int .i64 t671, .int .i64 t672] 51 (0, 0)) (kb BK681.out) hb); have n6_ := Aside0.mk (blk_below (g := gb682) (o := .cells #[.int .i64 t673, .int .i64 t674, .int .i64 t675, .int .i64 t676, .bool t677, .bool t678, .bool t679, .bool t680] 55 (0, 0)) (kb BK682.out) hb); have n7_ := Aside0.mk (below_step (bw HB.out) hb); clear HO_649000; clear HO_650000; clear BK648; clear BK649; clear BK652; clear BK681; clear BK682; clear HB; have HO_649000 := n0_; have HO_650000 := n1_; have BK648 := n2_; have BK649 := n3_; have BK652 := n4_; have BK681 := n5_; have BK682 := n6_; have HB := n7_; clear n0_ n1_ n2_ n3_ n4_ n5_ n6_ n7_; (try clear hb); (try clear hb2); (try clear hk); (try clear hi)) | ((with_reducible refine gate_callee (f := 43) rfl ?_); refine goesM_ (some 109) rfl rfl Try.func43 #[.slice A0 l0.length c0] ?_; (with_reducible refine (spec_DrawCpuNew.calls kj31 _ _ l0 t689 _ ?side1 ?side2 A89.out).mono ?_); (case side1 => exact kc (Kd.C_below HR0.out HB.out)); (case side2 => exact HC0.out); rintro e w118 ⟨v690, rfl, ho0, hb⟩; refine ⟨_, rfl, ?_⟩; have n0_ := Aside0.mk (Kd.S_elder' (ks HO_649000.out) (Kd.S_base ho0) hb); have n1_ := Aside0.mk (Kd.Q_below (kq HO_650000.out) hb); have n2_ := Aside0.mk (Kd.S_lower (Kd.S_new' (Kd.S_new' ho0 (Kd.S_lt (ks HO_649000.out))) (Kd.Q_lt (kq HO_650000.out))) (below_size (bw HB.out))); have n3_ := Aside0.mk (blk_below (g := gb648) (o := .cells #[.slice Ao10 t640.length co10] 29 (0, 0)) (kb BK648.out) hb); have n4_ := Aside0.mk (blk_below (g := gb649) (o := .cells #[.slice Ao13 t643.length co13, .int .i64 t646] 32 (0, 0)) (kb BK649.out) hb); have n5_ := Aside0.mk (blk_below (g := gb652) (o := .cells #[.int .i64 t650, .int .i64 t651] 51 (0, 0)) (kb BK652.out) hb); have n6_ := Aside0.mk (blk_below (g := gb681) (o := .cells #[.int .i64 t671, .int .i64 t672] 51 (0, 0)) (kb BK681.out) hb); have n7_ := Aside0.mk (blk_below (g := gb682) (o := .cells #[.int .i64 t673, .int .i64 t674, .int .i64 t675, .int .i64 t676, .bool t677, .bool t678, .bool t679, .bool t680] 55 (0, 0)) (kb BK682.out) hb); have n8_ := Aside0.mk (below_step (bw HB.out) hb); clear HO_649000; clear HO_650000; clear BK648; clear BK649; clear BK652; clear BK681; clear BK682; clear HB; have HO_649000 := n0_; have HO_650000 := n1_; have HO691 := n2_; have BK648 := n3_; have BK649 := n4_; have BK652 := n5_; have BK681 := n6_; have BK682 := n7_; have HB := n8_; clear n0_ n1_ n2_ n3_ n4_ n5_ n6_ n7_ n8_; (try clear hb); (try clear hb2); (try clear hk); (try clear hi); (try clear ho0)) | ((with_reducible refine gate_dst (N := 16) rfl ?_); refine bx (N := 16) (cs := #[.slice none 0 0]) (t := 29) ?_; intro gb692 hg w119 hbox hb; have n0_ := Aside0.mk (Kd.S_below (ks HO_649000.out) hb); have n1_ := Aside0.mk (Kd.Q_below (kq HO_650000.out) hb); have n2_ := Aside0.mk (Kd.S_below (ks HO691.out) hb); have n3_ := Aside0.mk (blk_below (g := gb648) (o := .cells #[.slice Ao10 t640.length co10] 29 (0, 0)) (kb BK648.out) hb); have n4_ := Aside0.mk (blk_below (g := gb649) (o := .cells #[.slice Ao13 t643.length co13, .int .i64 t646] 32 (0, 0)) (kb BK649.out) hb); have n5_ := Aside0.mk (blk_below (g := gb652) (o := .cells #[.int .i64 t650, .int .i64 t651] 51 (0, 0)) (kb BK652.out) hb); have n6_ := Aside0.mk (blk_below (g := gb681) (o := .cells #[.int .i64 t671, .int .i64 t672] 51 (0, 0)) (kb BK681.out) hb); have n7_ := Aside0.mk (blk_below (g := gb682) (o := .cells #[.int .i64 t673, .int .i64 t674, .int .i64 t675, .int .i64 t676, .bool t677, .bool t678, .bool t679, .bool t680] 55 (0, 0)) (kb BK682.out) hb); have n8_ := Aside0.mk (below_step (bw HB.out) hb); have n9_ := Aside0.mk (hbox); have n10_ := Aside0.mk ((gs hg (bw HB.out))); have n11_ := Aside0.mk ((gs hg (bw HB.out))); have n12_ := Aside0.mk ((ga hg BK648.out)); have n13_ := Aside0.mk ((gc hg BK648.out)); have n14_ := Aside0.mk ((ga hg BK649.out)); have n15_ := Aside0.mk ((gc hg BK649.out)); have n16_ := Aside0.mk ((ga hg BK652.out)); have n17_ := Aside0.mk ((gc hg BK652.out)); have n18_ := Aside0.mk ((ga hg BK681.out)); have n19_ := Aside0.mk ((gc hg BK681.out)); have n20_ := Aside0.mk ((ga hg BK682.out)); have n21_ := Aside0.mk ((gc hg BK682.out)); clear HO_649000; clear HO_650000; clear HO691; clear BK648; clear BK649; clear BK652; clear BK681; clear BK682; clear HB; have HO_649000 := n0_; have HO_650000 := n1_; have HO691 := n2_; have BK648 := n3_; have BK649 := n4_; have BK652 := n5_; have BK681 := n6_; have BK682 := n7_; have HB := n8_; have BK692 := n9_; have GW692 := n10_; have GE692 := n11_; have NB648_692 := n12_; have NB692_648 := n13_; have NB649_692 := n14_; have NB692_649 := n15_; have NB652_692 := n16_; have NB692_652 := n17_; have NB681_692 := n18_; have NB692_681 := n19_; have NB682_692 := n20_; have NB692_682 := n21_; clear n0_ n1_ n2_ n3_ n4_ n5_ n6_ n7_ n8_ n9_ n10_ n11_ n12_ n13_ n14_ n15_ n16_ n17_ n18_ n19_ n20_ n21_; clear hb hbox hg; obtain ⟨Ao120, co120, eo120⟩ := Kd.S_slice HO691.out; subst eo120; have hnb121 := NB692_648.out; have hnc121 := NB648_692.out; have hnb122 := NB692_649.out; have hnc122 := NB649_692.out; have hnb123 := NB692_652.out; have hnc123 := NB652_692.out; have hnb124 := NB692_681.out; have hnc124 := NB681_692.out; have hnb125 := NB692_682.out; have hnc125 := NB682_692.out; have hcz126_0 : w119.cell? ⟨gb692, 0, none⟩ = some (.slice none 0 0) := cl BK692 0; have hfz126_0 := blk_frozen BK692.out 0) | ((with_reducible refine gate_callee (f := 44) rfl ?_); refine goesM_ (some 111) rfl rfl Try.func44 #[.agg #[.slice Ao120 t689.length co120]] ?_; (with_reducible refine (impl_CpuNew.calls kj31 _ _ t689 t693 t694 t695 t696 t697 t698 t699 t700 _ ?side1 ?side2 A90.out).mono ?_); (case side1 => refine (Kd.S_reads' (d := cutK 3 (Kd.int .i64)) (e := 30) (base := w.heap.size) (ok := fun k_ => ((True ∧ some k_ ≠ (.slice Ao10 t640.length co10 : Value).ownBlock) ∧ some k_ ≠ (.slice Ao13 t643.length co13 : Value).ownBlock)) (n := t689.length) (c := co120) ?_).2.2; exact (ks ((Kd.S_mono (Kd.S_far (p := ⟨gb692, 0, none⟩) (Kd.S_types HO691.out BK692.out (by decide)) (fun _ hk => hk.2) (.slice Ao120 t689.length co120)) (fun _ h_ => h_.1))))); (case side2 => exact (Kd.S_reads' HO691.out).2.1); rintro e w127 ⟨rfl, hb⟩; refine ⟨_, rfl, ?_⟩; have n0_ := Aside0.mk (Kd.S_below (ks ((Kd.S_mono (Kd.S_far (p := ⟨gb692, 0, none⟩) (Kd.S_types HO_649000.out BK692.out (by decide)) (fun _ hk => hk.2) (.slice Ao120 t689.length co120)) (fun _ h_ => h_.1)))) hb); have n1_ := Aside0.mk (Kd.Q_below (kq ((Kd.Q_mono (Kd.Q_far (p := ⟨gb692, 0, none⟩) (Kd.Q_types HO_650000.out BK692.out (by decide)) (fun _ hk => hk.2) (.slice Ao120 t689.length co120)) (fun _ h_ => h_.1)))) hb); have n2_ := Aside0.mk (Kd.S_below (ks ((Kd.S_mono (Kd.S_far (p := ⟨gb692, 0, none⟩) (Kd.S_types HO691.out BK692.out (by decide)) (fun _ hk => hk.2) (.slice Ao120 t689.length co120)) (fun _ h_ => h_.1)))) hb); have n3_ := Aside0.mk (blk_below (g := gb648) (o := .cells #[.slice Ao10 t640.length co10] 29 (0, 0)) (kf BK648.out) hb); have n4_ := Aside0.mk (blk_below (g := gb649) (o := .cells #[.slice Ao13 t643.length co13, .int .i64 t646] 32 (0, 0)) (kf BK649.out) hb); have n5_ := Aside0.mk (blk_below (g := gb652) (o := .cells #[.int .i64 t650, .int .i64 t651] 51 (0, 0)) (kf BK652.out) hb); have n6_ := Aside0.mk (blk_below (g := gb681) (o := .cells #[.int .i64 t671, .int .i64 t672] 51 (0, 0)) (kf BK681.out) hb); have n7_ := Aside0.mk (blk_below (g := gb682) (o := .cells #[.int .i64 t673, .int .i64 t674, .int .i64 t675, .int .i64 t676, .bool t677, .bool t678, .bool t679, .bool t680] 55 (0, 0)) (kf BK682.out) hb); have n8_ := Aside0.mk (blk_below (g := gb692) (o := .cells #[.slice Ao120 t689.length co120] 29 (0, 0)) (kt BK692.out) hb); have n9_ := Aside0.mk (below_step (bw HB.out) hb); clear HO_649000; clear HO_650000; clear HO691; clear BK648; clear BK649; clear BK652; clear BK681; clear BK682; clear BK692; clear HB; have HO_649000 := n0_; have HO_650000 := n1_; have HO691 := n2_; have BK648 := n3_; have BK649 := n4_; have BK652 := n5_; have BK681 := n6_; have BK682 := n7_; have BK692 := n8_; have HB := n9_; clear n0_ n1_ n2_ n3_ n4_ n5_ n6_ n7_ n8_ n9_; (try clear hb); (try clear hb2); (try clear hk); (try clear hi)) | ((with_reducible refine gate_dst (N := 17) rfl ?_); refine bx (N := 17) (cs := #[.int .i64 0, .int .i64 0, .int .i64 0, .int .i64 0, .bool false, .bool false, .bool false, .bool false]) (t := 55) ?_; intro gb701 hg w128 hbox hb; have n0_ := Aside0.mk (Kd.S_below (ks HO_649000.out) hb); have n1_ := Aside0.mk (Kd.Q_below (kq HO_650000.out) hb); have n2_ := Aside0.mk (Kd.S_below (ks HO691.out) hb); have n3_ := Aside0.mk (blk_below (g := gb648) (o := .cells #[.slice Ao10 t640.length co10] 29 (0, 0)) (kb BK648.out) hb); have n4_ := Aside0.mk (blk_below (g := gb649) (o := .cells #[.slice Ao13 t643.length co13, .int .i64 t646] 32 (0, 0)) (kb BK649.out) hb); have n5_ := Aside0.mk (blk_below (g := gb652) (o := .cells #[.int .i64 t650, .int .i64 t651] 51 (0, 0)) (kb BK652.out) hb); have n6_ := Aside0.mk (blk_below (g := gb681) (o := .cells #[.int .i64 t671, .int .i64 t672] 51 (0, 0)) (kb BK681.out) hb); have n7_ := Aside0.mk (blk_below (g := gb682) (o := .cells #[.int .i64 t673, .int .i64 t674, .int .i64 t675, .int .i64 t676, .bool t677, .bool t678, .bool t679, .bool t680] 55 (0, 0)) (kb BK682.out) hb); have n8_ := Aside0.mk (blk_below (g := gb692) (o := .cells #[.slice Ao120 t689.length co120] 29 (0, 0)) (kb BK692.out) hb); have n9_ := Aside0.mk (below_step (bw HB.out) hb); have n10_ := Aside0.mk (hbox); have n11_ := Aside0.mk ((gs hg (bw HB.out))); have n12_ := Aside0.mk ((gs hg (bw HB.out))); have n13_ := Aside0.mk ((ga hg BK648.out)); have n14_ := Aside0.mk ((gc hg BK648.out)); have n15_ := Aside0.mk ((ga hg BK649.out)); have n16_ := Aside0.mk ((gc hg BK649.out)); have n17_ := Aside0.mk ((ga hg BK652.out)); have n18_ := Aside0.mk ((gc hg BK652.out)); have n19_ := Aside0.mk ((ga hg BK681.out)); have n20_ := Aside0.mk ((gc hg BK681.out)); have n21_ := Aside0.mk ((ga hg BK682.out)); have n22_ := Aside0.mk ((gc hg BK682.out)); have n23_ := Aside0.mk ((ga hg BK692.out)); have n24_ := Aside0.mk ((gc hg BK692.out)); clear HO_649000; clear HO_650000; clear HO691; clear BK648; clear BK649; clear BK652; clear BK681; clear BK682; clear BK692; clear HB; have HO_649000 := n0_; have HO_650000 := n1_; have HO691 := n2_; have BK648 := n3_; have BK649 := n4_; have BK652 := n5_; have BK681 := n6_; have BK682 := n7_; have BK692 := n8_; have HB := n9_; have BK701 := n10_; have GW701 := n11_; have GE701 := n12_; have NB648_701 := n13_; have NB701_648 := n14_; have NB649_701 := n15_; have NB701_649 := n16_; have NB652_701 := n17_; have NB701_652 := n18_; have NB681_701 := n19_; have NB701_681 := n20_; have NB682_701 := n21_; have NB701_682 := n22_; have NB692_701 := n23_; have NB701_692 := n24_; clear n0_ n1_ n2_ n3_ n4_ n5_ n6_ n7_ n8_ n9_ n10_ n11_ n12_ n13_ n14_ n15_ n16_ n17_ n18_ n19_ n20_ n21_ n22_ n23_ n24_; clear hb hbox hg; have hnb129 := NB701_648.out; have hnc129 := NB648_701.out; have hnb130 := NB701_649.out; have hnc130 := NB649_701.out; have hnb131 := NB701_652.out; have hnc131 := NB652_701.out; have hnb132 := NB701_681.out; have hnc132 := NB681_701.out; have hnb133 := NB701_682.out; have hnc133 := NB682_701.out; have hnb134 := NB701_692.out; have hnc134 := NB692_701.out; have hcz135_0 : w128.cell? ⟨gb701, 0, none⟩ = some (.int .i64 0) := cl BK701 0; have hcz135_1 : w128.cell? ⟨gb701, 1, none⟩ = some (.int .i64 0) := cl BK701 1; have hcz135_2 : w128.cell? ⟨gb701, 2, none⟩ = some (.int .i64 0) := cl BK701 2; have hcz135_3 : w128.cell? ⟨gb701, 3, none⟩ = some (.int .i64 0) := cl BK701 3; have hcz135_4 : w128.cell? ⟨gb701, 4, none⟩ = some (.bool false) := cl BK701 4; have hcz135_5 : w128.cell? ⟨gb701, 5, none⟩ = some (.bool false) := cl BK701 5; have hcz135_6 : w128.cell? ⟨gb701, 6, none⟩ = some (.bool false) := cl BK701 6; have hcz135_7 : w128.cell? ⟨gb701, 7, none⟩ = some (.bool false) := cl BK701 7; have hfz135_0 := blk_frozen BK701.out 0; have hfz135_1 := blk_frozen BK701.out 1; have hfz135_2 := blk_frozen BK701.out 2; have hfz135_3 := blk_frozen BK701.out 3; have hfz135_4 := blk_frozen BK701.out 4; have hfz135_5 := blk_frozen BK701.out 5; have hfz135_6 := blk_frozen BK701.out 6; have hfz135_7 := blk_frozen BK701.out 7))
                 have n0_ : Aside0 (Kd.S (cutK 3 (Kd.int .i64)) 30 ((((((((w128.setCell ⟨gb701, 0, none⟩ (.int .i64 t693)).setCell ⟨gb701, 1, none⟩ (.int .i64 t694)).setCell ⟨gb701, 2, none⟩ (.int .i64 t695)).setCell ⟨gb701, 3, none⟩ (.int .i64 t696)).setCell ⟨gb701, 4, none⟩ (.bool t697)).setCell ⟨gb701, 5, none⟩ (.bool t698)).setCell ⟨gb701, 6, none⟩ (.bool t699)).setCell ⟨gb701, 7, none⟩ (.bool t700)) w.heap.size (fun k_ => some k_ ≠ (.slice Ao13 t643.length co13 : Value).ownBlock ∧ some k_ ≠ (.slice Ao120 t689.length co120 : Value).ownBlock) (.slice Ao10 t640.length co10) t640) := ⟨ks (Kd.S_mono (Kd.S_far (p := ⟨gb701, 7, none⟩) (Kd.S_far (p := ⟨gb701, 6, none⟩) (Kd.S_far (p := ⟨gb701, 5, none⟩) (Kd.S_far (p := ⟨gb701, 4, none⟩) (Kd.S_far (p := ⟨gb701, 3, none⟩) (Kd.S_far (p := ⟨gb701, 2, none⟩) (Kd.S_far (p := ⟨gb701, 1, none⟩) (Kd.S_far (p := ⟨gb701, 0, none⟩) (Kd.S_types HO_649000.out BK701.out (by decide)) (fun _ hk => hk.2) (.int .i64 t693)) (fun _ hk => hk.2) (.int .i64 t694)) (fun _ hk => hk.2) (.int .i64 t695)) (fun _ hk => hk.2) (.int .i64 t696)) (fun _ hk => hk.2) (.bool t697)) (fun _ hk => hk.2) (.bool t698)) (fun _ hk => hk.2) (.bool t699)) (fun _ hk => hk.2) (.bool t700)) (fun _ hk => ⟨hk.1.1, hk.1.2⟩))⟩
                 have n1_ : Aside0 (Kd.Q (Kd.int .i64) 3 ((((((((w128.setCell ⟨gb701, 0, none⟩ (.int .i64 t693)).setCell ⟨gb701, 1, none⟩ (.int .i64 t694)).setCell ⟨gb701, 2, none⟩ (.int .i64 t695)).setCell ⟨gb701, 3, none⟩ (.int .i64 t696)).setCell ⟨gb701, 4, none⟩ (.bool t697)).setCell ⟨gb701, 5, none⟩ (.bool t698)).setCell ⟨gb701, 6, none⟩ (.bool t699)).setCell ⟨gb701, 7, none⟩ (.bool t700)) w.heap.size (fun _ => True) (.slice Ao13 t643.length co13) t643) := ⟨kq (Kd.Q_mono (Kd.Q_far (p := ⟨gb701, 7, none⟩) (Kd.Q_far (p := ⟨gb701, 6, none⟩) (Kd.Q_far (p := ⟨gb701, 5, none⟩) (Kd.Q_far (p := ⟨gb701, 4, none⟩) (Kd.Q_far (p := ⟨gb701, 3, none⟩) (Kd.Q_far (p := ⟨gb701, 2, none⟩) (Kd.Q_far (p := ⟨gb701, 1, none⟩) (Kd.Q_far (p := ⟨gb701, 0, none⟩) (Kd.Q_types HO_650000.out BK701.out (by decide)) (fun _ hk => hk.2) (.int .i64 t693)) (fun _ hk => hk.2) (.int .i64 t694)) (fun _ hk => hk.2) (.int .i64 t695)) (fun _ hk => hk.2) (.int .i64 t696)) (fun _ hk => hk.2) (.bool t697)) (fun _ hk => hk.2) (.bool t698)) (fun _ hk => hk.2) (.bool t699)) (fun _ hk => hk.2) (.bool t700)) (fun _ hk => trivial))⟩
                 have n2_ : Aside0 (Kd.S (cutK 3 (Kd.int .i64)) 30 ((((((((w128.setCell ⟨gb701, 0, none⟩ (.int .i64 t693)).setCell ⟨gb701, 1, none⟩ (.int .i64 t694)).setCell ⟨gb701, 2, none⟩ (.int .i64 t695)).setCell ⟨gb701, 3, none⟩ (.int .i64 t696)).setCell ⟨gb701, 4, none⟩ (.bool t697)).setCell ⟨gb701, 5, none⟩ (.bool t698)).setCell ⟨gb701, 6, none⟩ (.bool t699)).setCell ⟨gb701, 7, none⟩ (.bool t700)) w.heap.size (fun k_ => some k_ ≠ (.slice Ao10 t640.length co10 : Value).ownBlock ∧ some k_ ≠ (.slice Ao13 t643.length co13 : Value).ownBlock) (.slice Ao120 t689.length co120) t689) := ⟨ks (Kd.S_mono (Kd.S_far (p := ⟨gb701, 7, none⟩) (Kd.S_far (p := ⟨gb701, 6, none⟩) (Kd.S_far (p := ⟨gb701, 5, none⟩) (Kd.S_far (p := ⟨gb701, 4, none⟩) (Kd.S_far (p := ⟨gb701, 3, none⟩) (Kd.S_far (p := ⟨gb701, 2, none⟩) (Kd.S_far (p := ⟨gb701, 1, none⟩) (Kd.S_far (p := ⟨gb701, 0, none⟩) (Kd.S_types HO691.out BK701.out (by decide)) (fun _ hk => hk.2) (.int .i64 t693)) (fun _ hk => hk.2) (.int .i64 t694)) (fun _ hk => hk.2) (.int .i64 t695)) (fun _ hk => hk.2) (.int .i64 t696)) (fun _ hk => hk.2) (.bool t697)) (fun _ hk => hk.2) (.bool t698)) (fun _ hk => hk.2) (.bool t699)) (fun _ hk => hk.2) (.bool t700)) (fun _ hk => ⟨hk.1.1.2, hk.1.2⟩))⟩
                 have n3_ : Aside0 (((((((((w128.setCell ⟨gb701, 0, none⟩ (.int .i64 t693)).setCell ⟨gb701, 1, none⟩ (.int .i64 t694)).setCell ⟨gb701, 2, none⟩ (.int .i64 t695)).setCell ⟨gb701, 3, none⟩ (.int .i64 t696)).setCell ⟨gb701, 4, none⟩ (.bool t697)).setCell ⟨gb701, 5, none⟩ (.bool t698)).setCell ⟨gb701, 6, none⟩ (.bool t699)).setCell ⟨gb701, 7, none⟩ (.bool t700)).heap[gb648]? = some (.cells #[.slice Ao10 t640.length co10] 29 (0, 0))) := ⟨kf BK648.out⟩
                 have n4_ : Aside0 (((((((((w128.setCell ⟨gb701, 0, none⟩ (.int .i64 t693)).setCell ⟨gb701, 1, none⟩ (.int .i64 t694)).setCell ⟨gb701, 2, none⟩ (.int .i64 t695)).setCell ⟨gb701, 3, none⟩ (.int .i64 t696)).setCell ⟨gb701, 4, none⟩ (.bool t697)).setCell ⟨gb701, 5, none⟩ (.bool t698)).setCell ⟨gb701, 6, none⟩ (.bool t699)).setCell ⟨gb701, 7, none⟩ (.bool t700)).heap[gb649]? = some (.cells #[.slice Ao13 t643.length co13, .int .i64 t646] 32 (0, 0))) := ⟨kf BK649.out⟩
                 have n5_ : Aside0 (((((((((w128.setCell ⟨gb701, 0, none⟩ (.int .i64 t693)).setCell ⟨gb701, 1, none⟩ (.int .i64 t694)).setCell ⟨gb701, 2, none⟩ (.int .i64 t695)).setCell ⟨gb701, 3, none⟩ (.int .i64 t696)).setCell ⟨gb701, 4, none⟩ (.bool t697)).setCell ⟨gb701, 5, none⟩ (.bool t698)).setCell ⟨gb701, 6, none⟩ (.bool t699)).setCell ⟨gb701, 7, none⟩ (.bool t700)).heap[gb652]? = some (.cells #[.int .i64 t650, .int .i64 t651] 51 (0, 0))) := ⟨kf BK652.out⟩
                 have n6_ : Aside0 (((((((((w128.setCell ⟨gb701, 0, none⟩ (.int .i64 t693)).setCell ⟨gb701, 1, none⟩ (.int .i64 t694)).setCell ⟨gb701, 2, none⟩ (.int .i64 t695)).setCell ⟨gb701, 3, none⟩ (.int .i64 t696)).setCell ⟨gb701, 4, none⟩ (.bool t697)).setCell ⟨gb701, 5, none⟩ (.bool t698)).setCell ⟨gb701, 6, none⟩ (.bool t699)).setCell ⟨gb701, 7, none⟩ (.bool t700)).heap[gb681]? = some (.cells #[.int .i64 t671, .int .i64 t672] 51 (0, 0))) := ⟨kf BK681.out⟩
                 have n7_ : Aside0 (((((((((w128.setCell ⟨gb701, 0, none⟩ (.int .i64 t693)).setCell ⟨gb701, 1, none⟩ (.int .i64 t694)).setCell ⟨gb701, 2, none⟩ (.int .i64 t695)).setCell ⟨gb701, 3, none⟩ (.int .i64 t696)).setCell ⟨gb701, 4, none⟩ (.bool t697)).setCell ⟨gb701, 5, none⟩ (.bool t698)).setCell ⟨gb701, 6, none⟩ (.bool t699)).setCell ⟨gb701, 7, none⟩ (.bool t700)).heap[gb682]? = some (.cells #[.int .i64 t673, .int .i64 t674, .int .i64 t675, .int .i64 t676, .bool t677, .bool t678, .bool t679, .bool t680] 55 (0, 0))) := ⟨kf BK682.out⟩
                 have n8_ : Aside0 (((((((((w128.setCell ⟨gb701, 0, none⟩ (.int .i64 t693)).setCell ⟨gb701, 1, none⟩ (.int .i64 t694)).setCell ⟨gb701, 2, none⟩ (.int .i64 t695)).setCell ⟨gb701, 3, none⟩ (.int .i64 t696)).setCell ⟨gb701, 4, none⟩ (.bool t697)).setCell ⟨gb701, 5, none⟩ (.bool t698)).setCell ⟨gb701, 6, none⟩ (.bool t699)).setCell ⟨gb701, 7, none⟩ (.bool t700)).heap[gb692]? = some (.cells #[.slice Ao120 t689.length co120] 29 (0, 0))) := ⟨kf BK692.out⟩
                 have n9_ : Aside0 (((((((((w128.setCell ⟨gb701, 0, none⟩ (.int .i64 t693)).setCell ⟨gb701, 1, none⟩ (.int .i64 t694)).setCell ⟨gb701, 2, none⟩ (.int .i64 t695)).setCell ⟨gb701, 3, none⟩ (.int .i64 t696)).setCell ⟨gb701, 4, none⟩ (.bool t697)).setCell ⟨gb701, 5, none⟩ (.bool t698)).setCell ⟨gb701, 6, none⟩ (.bool t699)).setCell ⟨gb701, 7, none⟩ (.bool t700)).heap[gb701]? = some (.cells #[.int .i64 t693, .int .i64 t694, .int .i64 t695, .int .i64 t696, .bool t697, .bool t698, .bool t699, .bool t700] 55 (0, 0))) := ⟨by (with_reducible repeat (first | refine blk_drewN ?_ _ | refine blk_drew ?_ | refine blk_alloc ?_ _)); refine blk_put (cs := #[.int .i64 t693, .int .i64 t694, .int .i64 t695, .int .i64 t696, .bool t697, .bool t698, .bool t699, .bool false]) ?_ 7 _ rfl; (with_reducible repeat (first | refine blk_drewN ?_ _ | refine blk_drew ?_ | refine blk_alloc ?_ _)); refine blk_put (cs := #[.int .i64 t693, .int .i64 t694, .int .i64 t695, .int .i64 t696, .bool t697, .bool t698, .bool false, .bool false]) ?_ 6 _ rfl; (with_reducible repeat (first | refine blk_drewN ?_ _ | refine blk_drew ?_ | refine blk_alloc ?_ _)); refine blk_put (cs := #[.int .i64 t693, .int .i64 t694, .int .i64 t695, .int .i64 t696, .bool t697, .bool false, .bool false, .bool false]) ?_ 5 _ rfl; (with_reducible repeat (first | refine blk_drewN ?_ _ | refine blk_drew ?_ | refine blk_alloc ?_ _)); refine blk_put (cs := #[.int .i64 t693, .int .i64 t694, .int .i64 t695, .int .i64 t696, .bool false, .bool false, .bool false, .bool false]) ?_ 4 _ rfl; (with_reducible repeat (first | refine blk_drewN ?_ _ | refine blk_drew ?_ | refine blk_alloc ?_ _)); refine blk_put (cs := #[.int .i64 t693, .int .i64 t694, .int .i64 t695, .int .i64 0, .bool false, .bool false, .bool false, .bool false]) ?_ 3 _ rfl; (with_reducible repeat (first | refine blk_drewN ?_ _ | refine blk_drew ?_ | refine blk_alloc ?_ _)); refine blk_put (cs := #[.int .i64 t693, .int .i64 t694, .int .i64 0, .int .i64 0, .bool false, .bool false, .bool false, .bool false]) ?_ 2 _ rfl; (with_reducible repeat (first | refine blk_drewN ?_ _ | refine blk_drew ?_ | refine blk_alloc ?_ _)); refine blk_put (cs := #[.int .i64 t693, .int .i64 0, .int .i64 0, .int .i64 0, .bool false, .bool false, .bool false, .bool false]) ?_ 1 _ rfl; (with_reducible repeat (first | refine blk_drewN ?_ _ | refine blk_drew ?_ | refine blk_alloc ?_ _)); refine blk_put (cs := #[.int .i64 0, .int .i64 0, .int .i64 0, .int .i64 0, .bool false, .bool false, .bool false, .bool false]) ?_ 0 _ rfl; (with_reducible repeat (first | refine blk_drewN ?_ _ | refine blk_drew ?_ | refine blk_alloc ?_ _)); exact BK701.out⟩
                 have n10_ : Aside0 (Below w.heap.size w ((((((((w128.setCell ⟨gb701, 0, none⟩ (.int .i64 t693)).setCell ⟨gb701, 1, none⟩ (.int .i64 t694)).setCell ⟨gb701, 2, none⟩ (.int .i64 t695)).setCell ⟨gb701, 3, none⟩ (.int .i64 t696)).setCell ⟨gb701, 4, none⟩ (.bool t697)).setCell ⟨gb701, 5, none⟩ (.bool t698)).setCell ⟨gb701, 6, none⟩ (.bool t699)).setCell ⟨gb701, 7, none⟩ (.bool t700))) := ⟨bw HB.out⟩
                 (try clear HO_649000); (try clear HO_650000); (try clear HO691); (try clear BK648); (try clear BK649); (try clear BK652); (try clear BK681); (try clear BK682); (try clear BK692); (try clear BK701); (try clear HB)
                 generalize ((((((((w128.setCell ⟨gb701, 0, none⟩ (.int .i64 t693)).setCell ⟨gb701, 1, none⟩ (.int .i64 t694)).setCell ⟨gb701, 2, none⟩ (.int .i64 t695)).setCell ⟨gb701, 3, none⟩ (.int .i64 t696)).setCell ⟨gb701, 4, none⟩ (.bool t697)).setCell ⟨gb701, 5, none⟩ (.bool t698)).setCell ⟨gb701, 6, none⟩ (.bool t699)).setCell ⟨gb701, 7, none⟩ (.bool t700)) = w136 at n0_ n1_ n2_ n3_ n4_ n5_ n6_ n7_ n8_ n9_ n10_ ⊢
                 have HO_649000 := n0_; have HO_650000 := n1_; have HO691 := n2_; have BK648 := n3_; have BK649 := n4_; have BK652 := n5_; have BK681 := n6_; have BK682 := n7_; have BK692 := n8_; have BK701 := n9_; have HB := n10_; clear n0_ n1_ n2_ n3_ n4_ n5_ n6_ n7_ n8_ n9_ n10_
                 have n0_ := Aside0.mk (Kd.S_drew HO_649000.out)
                 have n1_ := Aside0.mk (Kd.Q_drew HO_650000.out)
                 have n2_ := Aside0.mk (Kd.S_drew HO691.out)
                 have n3_ := Aside0.mk (blk_drew BK648.out)
                 have n4_ := Aside0.mk (blk_drew BK649.out)
                 have n5_ := Aside0.mk (blk_drew BK652.out)
                 have n6_ := Aside0.mk (blk_drew BK681.out)
                 have n7_ := Aside0.mk (blk_drew BK682.out)
                 have n8_ := Aside0.mk (blk_drew BK692.out)
                 have n9_ := Aside0.mk (blk_drew BK701.out)
                 have n10_ := Aside0.mk (below_drew1 HB.out)
                 clear HO_649000; clear HO_650000; clear HO691; clear BK648; clear BK649; clear BK652; clear BK681; clear BK682; clear BK692; clear BK701; clear HB; have HO_649000 := n0_; have HO_650000 := n1_; have HO691 := n2_; have BK648 := n3_; have BK649 := n4_; have BK652 := n5_; have BK681 := n6_; have BK682 := n7_; have BK692 := n8_; have BK701 := n9_; have HB := n10_; clear n0_ n1_ n2_ n3_ n4_ n5_ n6_ n7_ n8_ n9_ n10_
                 refine start_ (n := 52) (S := fun w' => w'.cell? ⟨gb681, 0, none⟩ = some (.int .i64 t671) ∧ w'.cell? ⟨gb681, 1, none⟩ = some (.int .i64 t672) ∧ w'.cell? ⟨gb701, 0, none⟩ = some (.int .i64 t693) ∧ w'.cell? ⟨gb701, 1, none⟩ = some (.int .i64 t694) ∧ w'.cell? ⟨gb701, 2, none⟩ = some (.int .i64 t695) ∧ w'.cell? ⟨gb701, 3, none⟩ = some (.int .i64 t696) ∧ w'.cell? ⟨gb701, 4, none⟩ = some (.bool t697) ∧ w'.cell? ⟨gb701, 5, none⟩ = some (.bool t698) ∧ w'.cell? ⟨gb701, 6, none⟩ = some (.bool t699) ∧ w'.cell? ⟨gb701, 7, none⟩ = some (.bool t700) ∧ w'.cell? ⟨gb692, 0, none⟩ = some (.slice Ao120 t689.length co120)) (ds := []) (bm 52 0) (by kernel_rfl) rfl (by kernel_rfl) ⟨cl BK681 0, cl BK681 1, cl BK701 0, cl BK701 1, cl BK701 2, cl BK701 3, cl BK701 4, cl BK701 5, cl BK701 6, cl BK701 7, cl BK692 0⟩ (fun hHeld => ?_); refine with_tabW laws_FnFetched.tab15 laws_FnFetched.bits15 (fun HT_ HW_ => ?_)
                 generalize w136.drew = w137 at HO_649000 HO_650000 HO691 BK648 BK649 BK652 BK681 BK682 BK692 BK701 HB hHeld ⊢
                 refine pw_ 0 (some 112) (bm 52 1) HT_ ?_
                 refine pw_ 1 (some 113) (bm 52 3) HT_ ?_
                 refine pw_ 2 (some 114) (bm 52 7) HT_ ?_
                 refine pw_ 3 (some 115) (bm 52 15) HT_ ?_
                 refine pw_ 4 (some 116) (bm 52 31) HT_ ?_
                 refine pw_ 5 (some 117) (bm 52 63) HT_ ?_
                 refine pw_ 6 (some 118) (bm 52 127) HT_ ?_
                 refine pw_ 7 (some 119) (bm 52 255) HT_ ?_
                 refine pw_ 8 (some 120) (bm 52 511) HT_ ?_
                 refine pw_ 9 (some 121) (bm 52 1023) HT_ ?_
                 refine pw_ 10 (some 122) (bm 52 2047) HT_ ?_
                 refine pw_ 11 (some 123) (bm 52 4095) HT_ ?_
                 refine pw_ 12 (some 124) (bm 52 8191) HT_ ?_
                 refine pw_ 13 (some 125) (bm 52 16383) HT_ ?_
                 refine pw_ 14 (some 126) (bm 52 32767) HT_ ?_
                 refine pw_ 15 (some 127) (bm 52 65535) HT_ ?_
                 refine tw_ 16 (some 128) (bm 52 131071) HT_ HW_ hHeld ?_
                 refine ow_ 17 (some 129) (bm 52 262143) HT_ (fun K hK => ?_)
                 refine gw_ Try.func45 #[.int .i64 t671] ?_
                 with_reducible refine (impl_OpAccess.calls kj31 t671 t702 _ A94.out).mono ?_
                 rintro e w' ⟨rfl, ⟨nd, rfl⟩⟩
                 refine ⟨_, rfl, ?_⟩
                 have n0_ := Aside0.mk (Kd.S_drewN HO_649000.out nd)
                 have n1_ := Aside0.mk (Kd.Q_drewN HO_650000.out nd)
                 have n2_ := Aside0.mk (Kd.S_drewN HO691.out nd)
                 have n3_ := Aside0.mk (blk_drewN BK648.out nd)
                 have n4_ := Aside0.mk (blk_drewN BK649.out nd)
                 have n5_ := Aside0.mk (blk_drewN BK652.out nd)
                 have n6_ := Aside0.mk (blk_drewN BK681.out nd)
                 have n7_ := Aside0.mk (blk_drewN BK682.out nd)
                 have n8_ := Aside0.mk (blk_drewN BK692.out nd)
                 have n9_ := Aside0.mk (blk_drewN BK701.out nd)
                 have n10_ := Aside0.mk (pw_below_drewN HB.out nd)
                 clear HO_649000; clear HO_650000; clear HO691; clear BK648; clear BK649; clear BK652; clear BK681; clear BK682; clear BK692; clear BK701; clear HB; have HO_649000 := n0_; have HO_650000 := n1_; have HO691 := n2_; have BK648 := n3_; have BK649 := n4_; have BK652 := n5_; have BK681 := n6_; have BK682 := n7_; have BK692 := n8_; have BK701 := n9_; have HB := n10_; clear n0_ n1_ n2_ n3_ n4_ n5_ n6_ n7_ n8_ n9_ n10_
                 generalize w137.drewN nd = w137 at HO_649000 HO_650000 HO691 BK648 BK649 BK652 BK681 BK682 BK692 BK701 HB ⊢
                 refine hK.out _ _ ⟨cl BK681 0, cl BK681 1, cl BK701 0, cl BK701 1, cl BK701 2, cl BK701 3, cl BK701 4, cl BK701 5, cl BK701 6, cl BK701 7, cl BK692 0⟩ (fun hHeld => ?_)
                 clear hK K
                 refine nw_ ?_
                 refine pw_ 18 (some 130) (bm 52 524287) HT_ ?_
                 refine pw_ 19 (some 131) (bm 52 1048575) HT_ ?_
                 refine pw_ 20 (some 132) (bm 52 2097151) HT_ ?_
                 refine pw_ 21 (some 133) (bm 52 4194303) HT_ ?_
                 refine pw_ 22 (some 134) (bm 52 8388607) HT_ ?_
                 refine pw_ 23 (some 135) (bm 52 16777215) HT_ ?_
                 refine pw_ 24 (some 136) (bm 52 33554431) HT_ ?_
                 refine pw_ 25 (some 137) (bm 52 67108863) HT_ ?_
                 refine pw_ 26 (some 138) (bm 52 134217727) HT_ ?_
                 refine pw_ 27 (some 139) (bm 52 268435455) HT_ ?_
                 refine pw_ 28 (some 140) (bm 52 536870911) HT_ ?_
                 refine pw_ 29 (some 141) (bm 52 1073741823) HT_ ?_
                 refine pw_ 30 (some 142) (bm 52 2147483647) HT_ ?_
                 refine pw_ 31 (some 143) (bm 52 4294967295) HT_ ?_
                 refine uw_ 32 (some 144) (bm 52 8589934591) HT_ ?_
                 refine uw_ 33 (some 145) (bm 52 17179869183) HT_ ?_
                 refine pw_ 34 (some 146) (bm 52 34359738367) HT_ ?_
                 refine pw_ 35 (some 147) (bm 52 68719476735) HT_ ?_
                 refine pw_ 36 (some 148) (bm 52 137438953471) HT_ ?_
                 refine tw_ 37 (some 149) (bm 52 274877906943) HT_ HW_ hHeld ?_
                 refine tw_ 38 (some 150) (bm 52 549755813887) HT_ HW_ hHeld ?_
                 refine ow_ 39 (some 151) (bm 52 1099511627775) HT_ (fun K hK => ?_)
                 refine gw_ Try.func46 #[.agg #[.slice Ao120 t689.length co120]] ?_
                 with_reducible refine (spec_CpuNew.calls kj31 _ _ t689 t693 t694 t695 t696 t697 t698 t699 t700 _ ?side1 ?side2 A99.out).mono ?_
                 (case side1 => exact kc (Kd.S_reads' HO691.out).2.2)
                 (case side2 => exact (Kd.S_reads' HO691.out).2.1)
                 rintro e w138 ⟨rfl, hb⟩
                 refine ⟨_, rfl, ?_⟩
                 have n0_ := Aside0.mk (Kd.S_below (ks HO_649000.out) hb)
                 have n1_ := Aside0.mk (Kd.Q_below (kq HO_650000.out) hb)
                 have n2_ := Aside0.mk (Kd.S_below (ks HO691.out) hb)
                 have n3_ := Aside0.mk (blk_below (g := gb648) (o := .cells #[.slice Ao10 t640.length co10] 29 (0, 0)) (kb BK648.out) hb)
                 have n4_ := Aside0.mk (blk_below (g := gb649) (o := .cells #[.slice Ao13 t643.length co13, .int .i64 t646] 32 (0, 0)) (kb BK649.out) hb)
                 have n5_ := Aside0.mk (blk_below (g := gb652) (o := .cells #[.int .i64 t650, .int .i64 t651] 51 (0, 0)) (kb BK652.out) hb)
                 have n6_ := Aside0.mk (blk_below (g := gb681) (o := .cells #[.int .i64 t671, .int .i64 t672] 51 (0, 0)) (kb BK681.out) hb)
                 have n7_ := Aside0.mk (blk_below (g := gb682) (o := .cells #[.int .i64 t673, .int .i64 t674, .int .i64 t675, .int .i64 t676, .bool t677, .bool t678, .bool t679, .bool t680] 55 (0, 0)) (kb BK682.out) hb)
                 have n8_ := Aside0.mk (blk_below (g := gb692) (o := .cells #[.slice Ao120 t689.length co120] 29 (0, 0)) (kb BK692.out) hb)
                 have n9_ := Aside0.mk (blk_below (g := gb701) (o := .cells #[.int .i64 t693, .int .i64 t694, .int .i64 t695, .int .i64 t696, .bool t697, .bool t698, .bool t699, .bool t700] 55 (0, 0)) (kb BK701.out) hb)
                 have n10_ := Aside0.mk (below_step (bw HB.out) hb)
                 clear HO_649000; clear HO_650000; clear HO691; clear BK648; clear BK649; clear BK652; clear BK681; clear BK682; clear BK692; clear BK701; clear HB; have HO_649000 := n0_; have HO_650000 := n1_; have HO691 := n2_; have BK648 := n3_; have BK649 := n4_; have BK652 := n5_; have BK681 := n6_; have BK682 := n7_; have BK692 := n8_; have BK701 := n9_; have HB := n10_; clear n0_ n1_ n2_ n3_ n4_ n5_ n6_ n7_ n8_ n9_ n10_; (try clear hb); (try clear hb2); (try clear hk); (try clear hi)
                 refine hK.out _ _ ⟨cl BK681 0, cl BK681 1, cl BK701 0, cl BK701 1, cl BK701 2, cl BK701 3, cl BK701 4, cl BK701 5, cl BK701 6, cl BK701 7, cl BK692 0⟩ (fun hHeld => ?_)
                 clear hK K
                 refine nw_ ?_
                 refine pw_ 40 (some 152) (bm 52 2199023255551) HT_ ?_
                 refine pw_ 41 (some 153) (bm 52 4398046511103) HT_ ?_
                 refine pw_ 42 (some 154) (bm 52 8796093022207) HT_ ?_
                 refine pw_ 43 (some 155) (bm 52 17592186044415) HT_ ?_
                 refine tw_ 44 (some 156) (bm 52 35184372088831) HT_ HW_ hHeld ?_
                 refine pw_ 45 (some 157) (bm 52 70368744177663) HT_ ?_
                 refine pw_ 46 (some 158) (bm 52 140737488355327) HT_ ?_
                 refine pw_ 47 (some 159) (bm 52 281474976710655) HT_ ?_
                 refine pw_ 48 (some 160) (bm 52 562949953421311) HT_ ?_
                 refine tw_ 49 (some 161) (bm 52 1125899906842623) HT_ HW_ hHeld ?_
                 refine pw_ 50 (some 162) (bm 52 2251799813685247) HT_ ?_
                 refine pw_ 51 (some 2) (bm 52 4503599627370495) HT_ ?_
                 refine done_ (done_of HT_.out (by kernel_rfl)) ?_
                 try go_wp2
                 go_ret
                 exact ⟨rt, bw HB.out⟩
                ·rw [if_neg c101] at H
                 have c101b0 : (t695 == 255) = false := beq_eq_false_iff_ne.mpr c101
                 have c101b1 : (t695 != 255) = true := bne_iff_ne.mpr c101
                 exact absurd ((Option.some.inj H).trans hrt) (by decide)
               ·rw [if_neg c100] at H
                have c100b0 : (t693 == t703 && (t694 == t704 && (t695 == t705 && (t696 == t706 && (t697 == t707 && (t698 == t708 && (t699 == t709 && (t700 == t710)))))))) = false := by simpa using c100
                (try (have c100b1 : decide (t693 = t703 && (t694 == t704 && (t695 == t705 && (t696 == t706 && (t697 == t707 && (t698 == t708 && (t699 == t709 && (t700 == t710)))))))) = false := by simpa using c100))
                (try (have c100b2 : (t693 == t703 && (t694 == t704 && (t695 == t705 && (t696 == t706 && (t697 == t707 && (t698 == t708 && (t699 == t709 && (t700 == t710)))))))) = false := by simpa using c100))
                (try (have c100b3 : ¬ (t693 = t703 && (t694 == t704 && (t695 == t705 && (t696 == t706 && (t697 == t707 && (t698 == t708 && (t699 == t709 && (t700 == t710)))))))) := by simpa using c100))
                clear c100
                exact absurd ((Option.some.inj H).trans hrt) (by decide)
              ·rw [if_neg c98] at H
               have c98b0 : (t683 == 2) = false := beq_eq_false_iff_ne.mpr c98
               have c98b1 : (t683 != 2) = true := bne_iff_ne.mpr c98
               by_cases c213 : t685 = 0
               ·rw [if_pos c213] at H
                have c213b0 : (t685 == 0) = true := beq_iff_eq.mpr c213
                have c213b1 : (t685 != 0) = false := bne_eq_false_iff_eq.mpr c213
                clear c213
                replace H := Option.bind_eq_some_iff.mp H
                obtain ⟨⟨t711, t712, t713, t714, t715, t716, t717, t718⟩, A2140, H⟩ := H
                replace H : (if (t693 == t711 && (t694 == t712 && (t695 == t713 && (t696 == t714 && (t697 == t715 && (t698 == t716 && (t699 == t717 && (t700 == t718)))))))) = true then (if t695 = 255 then (some t700) else (some false)) else (some false)) = some r := H
                have A214 := Aside0.mk A2140
                clear A2140
                by_cases c215 : (t693 == t711 && (t694 == t712 && (t695 == t713 && (t696 == t714 && (t697 == t715 && (t698 == t716 && (t699 == t717 && (t700 == t718)))))))) = true
                ·rw [if_pos c215] at H
                 have q_ : t693 = t711 ∧ t694 = t712 ∧ t695 = t713 ∧ t696 = t714 ∧ t697 = t715 ∧ t698 = t716 ∧ t699 = t717 ∧ t700 = t718 := by simpa using c215
                 obtain ⟨rfl, rfl, rfl, rfl, rfl, rfl, rfl, rfl⟩ := q_
                 clear c215
                 by_cases c216 : t695 = 255
                 ·rw [if_pos c216] at H
                  have c216b0 : (t695 == 255) = true := beq_iff_eq.mpr c216
                  have c216b1 : (t695 != 255) = false := bne_eq_false_iff_eq.mpr c216
                  clear c216; clear hrt
                  obtain rfl := Option.some.inj H
                  try go_wp2_with (first | ((with_reducible refine gate_callee (f := 40) rfl ?_); refine goesM_ (some 91) rfl rfl Try.func40 #[.slice A0 l0.length c0] ?_; (with_reducible refine (spec_DrawAccess.calls kj31 _ _ l0 t671 t672 t673 t674 t675 t676 t677 t678 t679 t680 _ ?side1 ?side2 A86.out).mono ?_); (case side1 => exact kc (Kd.C_below HR0.out HB.out)); (case side2 => exact HC0.out); rintro e w217 ⟨rfl, hb⟩; refine ⟨_, rfl, ?_⟩; have n0_ := Aside0.mk (Kd.S_below (ks HO_649000.out) hb); have n1_ := Aside0.mk (Kd.Q_below (kq HO_650000.out) hb); have n2_ := Aside0.mk (blk_below (g := gb648) (o := .cells #[.slice Ao10 t640.length co10] 29 (0, 0)) (kb BK648.out) hb); have n3_ := Aside0.mk (blk_below (g := gb649) (o := .cells #[.slice Ao13 t643.length co13, .int .i64 t646] 32 (0, 0)) (kb BK649.out) hb); have n4_ := Aside0.mk (blk_below (g := gb652) (o := .cells #[.int .i64 t650, .int .i64 t651] 51 (0, 0)) (kb BK652.out) hb); have n5_ := Aside0.mk (below_step (bw HB.out) hb); clear HO_649000; clear HO_650000; clear BK648; clear BK649; clear BK652; clear HB; have HO_649000 := n0_; have HO_650000 := n1_; have BK648 := n2_; have BK649 := n3_; have BK652 := n4_; have HB := n5_; clear n0_ n1_ n2_ n3_ n4_ n5_; (try clear hb); (try clear hb2); (try clear hk); (try clear hi)) | ((with_reducible refine gate_dst (N := 8) rfl ?_); refine bx (N := 8) (cs := #[.int .i64 0, .int .i64 0]) (t := 51) ?_; intro gb681 hg w218 hbox hb; have n0_ := Aside0.mk (Kd.S_below (ks HO_649000.out) hb); have n1_ := Aside0.mk (Kd.Q_below (kq HO_650000.out) hb); have n2_ := Aside0.mk (blk_below (g := gb648) (o := .cells #[.slice Ao10 t640.length co10] 29 (0, 0)) (kb BK648.out) hb); have n3_ := Aside0.mk (blk_below (g := gb649) (o := .cells #[.slice Ao13 t643.length co13, .int .i64 t646] 32 (0, 0)) (kb BK649.out) hb); have n4_ := Aside0.mk (blk_below (g := gb652) (o := .cells #[.int .i64 t650, .int .i64 t651] 51 (0, 0)) (kb BK652.out) hb); have n5_ := Aside0.mk (below_step (bw HB.out) hb); have n6_ := Aside0.mk (hbox); have n7_ := Aside0.mk ((gs hg (bw HB.out))); have n8_ := Aside0.mk ((gs hg (bw HB.out))); have n9_ := Aside0.mk ((ga hg BK648.out)); have n10_ := Aside0.mk ((gc hg BK648.out)); have n11_ := Aside0.mk ((ga hg BK649.out)); have n12_ := Aside0.mk ((gc hg BK649.out)); have n13_ := Aside0.mk ((ga hg BK652.out)); have n14_ := Aside0.mk ((gc hg BK652.out)); clear HO_649000; clear HO_650000; clear BK648; clear BK649; clear BK652; clear HB; have HO_649000 := n0_; have HO_650000 := n1_; have BK648 := n2_; have BK649 := n3_; have BK652 := n4_; have HB := n5_; have BK681 := n6_; have GW681 := n7_; have GE681 := n8_; have NB648_681 := n9_; have NB681_648 := n10_; have NB649_681 := n11_; have NB681_649 := n12_; have NB652_681 := n13_; have NB681_652 := n14_; clear n0_ n1_ n2_ n3_ n4_ n5_ n6_ n7_ n8_ n9_ n10_ n11_ n12_ n13_ n14_; clear hb hbox hg) | ((with_reducible refine gate_dst (N := 9) rfl ?_); refine bx (N := 9) (cs := #[.int .i64 0, .int .i64 0, .int .i64 0, .int .i64 0, .bool false, .bool false, .bool false, .bool false]) (t := 55) ?_; intro gb682 hg w219 hbox hb; have n0_ := Aside0.mk (Kd.S_below (ks HO_649000.out) hb); have n1_ := Aside0.mk (Kd.Q_below (kq HO_650000.out) hb); have n2_ := Aside0.mk (blk_below (g := gb648) (o := .cells #[.slice Ao10 t640.length co10] 29 (0, 0)) (kb BK648.out) hb); have n3_ := Aside0.mk (blk_below (g := gb649) (o := .cells #[.slice Ao13 t643.length co13, .int .i64 t646] 32 (0, 0)) (kb BK649.out) hb); have n4_ := Aside0.mk (blk_below (g := gb652) (o := .cells #[.int .i64 t650, .int .i64 t651] 51 (0, 0)) (kb BK652.out) hb); have n5_ := Aside0.mk (blk_below (g := gb681) (o := .cells #[.int .i64 0, .int .i64 0] 51 (0, 0)) (kb BK681.out) hb); have n6_ := Aside0.mk (below_step (bw HB.out) hb); have n7_ := Aside0.mk (hbox); have n8_ := Aside0.mk ((gs hg (bw HB.out))); have n9_ := Aside0.mk ((gs hg (bw HB.out))); have n10_ := Aside0.mk ((ga hg BK648.out)); have n11_ := Aside0.mk ((gc hg BK648.out)); have n12_ := Aside0.mk ((ga hg BK649.out)); have n13_ := Aside0.mk ((gc hg BK649.out)); have n14_ := Aside0.mk ((ga hg BK652.out)); have n15_ := Aside0.mk ((gc hg BK652.out)); have n16_ := Aside0.mk ((ga hg BK681.out)); have n17_ := Aside0.mk ((gc hg BK681.out)); clear HO_649000; clear HO_650000; clear BK648; clear BK649; clear BK652; clear BK681; clear HB; have HO_649000 := n0_; have HO_650000 := n1_; have BK648 := n2_; have BK649 := n3_; have BK652 := n4_; have BK681 := n5_; have HB := n6_; have BK682 := n7_; have GW682 := n8_; have GE682 := n9_; have NB648_682 := n10_; have NB682_648 := n11_; have NB649_682 := n12_; have NB682_649 := n13_; have NB652_682 := n14_; have NB682_652 := n15_; have NB681_682 := n16_; have NB682_681 := n17_; clear n0_ n1_ n2_ n3_ n4_ n5_ n6_ n7_ n8_ n9_ n10_ n11_ n12_ n13_ n14_ n15_ n16_ n17_; clear hb hbox hg; have hnb220 := NB681_648.out; have hnc220 := NB648_681.out; have hnb221 := NB681_649.out; have hnc221 := NB649_681.out; have hnb222 := NB681_652.out; have hnc222 := NB652_681.out; have hnb223 := NB681_682.out; have hnc223 := NB682_681.out; have hcz224_0 : w219.cell? ⟨gb681, 0, none⟩ = some (.int .i64 0) := cl BK681 0; have hcz224_1 : w219.cell? ⟨gb681, 1, none⟩ = some (.int .i64 0) := cl BK681 1; have hfz224_0 := blk_frozen BK681.out 0; have hfz224_1 := blk_frozen BK681.out 1; have hnb225 := NB682_648.out; have hnc225 := NB648_682.out; have hnb226 := NB682_649.out; have hnc226 := NB649_682.out; have hnb227 := NB682_652.out; have hnc227 := NB652_682.out; have hcz228_0 : w219.cell? ⟨gb682, 0, none⟩ = some (.int .i64 0) := cl BK682 0; have hcz228_1 : w219.cell? ⟨gb682, 1, none⟩ = some (.int .i64 0) := cl BK682 1; have hcz228_2 : w219.cell? ⟨gb682, 2, none⟩ = some (.int .i64 0) := cl BK682 2; have hcz228_3 : w219.cell? ⟨gb682, 3, none⟩ = some (.int .i64 0) := cl BK682 3; have hcz228_4 : w219.cell? ⟨gb682, 4, none⟩ = some (.bool false) := cl BK682 4; have hcz228_5 : w219.cell? ⟨gb682, 5, none⟩ = some (.bool false) := cl BK682 5; have hcz228_6 : w219.cell? ⟨gb682, 6, none⟩ = some (.bool false) := cl BK682 6; have hcz228_7 : w219.cell? ⟨gb682, 7, none⟩ = some (.bool false) := cl BK682 7; have hfz228_0 := blk_frozen BK682.out 0; have hfz228_1 := blk_frozen BK682.out 1; have hfz228_2 := blk_frozen BK682.out 2; have hfz228_3 := blk_frozen BK682.out 3; have hfz228_4 := blk_frozen BK682.out 4; have hfz228_5 := blk_frozen BK682.out 5; have hfz228_6 := blk_frozen BK682.out 6; have hfz228_7 := blk_frozen BK682.out 7) | ((with_reducible refine gate_callee (f := 41) rfl ?_); refine goesM_ (some 97) rfl rfl Try.func41 #[.agg #[.int .i64 t671, .int .i64 t672], .agg #[.int .i64 t673, .int .i64 t674, .int .i64 t675, .int .i64 t676, .bool t677, .bool t678, .bool t679, .bool t680]] ?_; (with_reducible refine (impl_Access.calls kj31 t671 t672 t673 t674 t675 t676 t677 t678 t679 t680 t683 t684 t685 _ A87.out).mono ?_); rintro e w229 ⟨rfl, hb⟩; refine ⟨_, rfl, ?_⟩; have n0_ := Aside0.mk (Kd.S_below (ks ((Kd.S_mono (Kd.S_mono (Kd.S_far (p := ⟨gb682, 7, none⟩) (Kd.S_far (p := ⟨gb682, 6, none⟩) (Kd.S_far (p := ⟨gb682, 5, none⟩) (Kd.S_far (p := ⟨gb682, 4, none⟩) (Kd.S_far (p := ⟨gb682, 3, none⟩) (Kd.S_far (p := ⟨gb682, 2, none⟩) (Kd.S_far (p := ⟨gb682, 1, none⟩) (Kd.S_far (p := ⟨gb682, 0, none⟩) (Kd.S_far (p := ⟨gb681, 1, none⟩) (Kd.S_far (p := ⟨gb681, 0, none⟩) (Kd.S_types (Kd.S_types HO_649000.out BK681.out (by decide)) BK682.out (by decide)) (fun _ hk => hk.1.2) (.int .i64 t671)) (fun _ hk => hk.1.2) (.int .i64 t672)) (fun _ hk => hk.2) (.int .i64 t673)) (fun _ hk => hk.2) (.int .i64 t674)) (fun _ hk => hk.2) (.int .i64 t675)) (fun _ hk => hk.2) (.int .i64 t676)) (fun _ hk => hk.2) (.bool t677)) (fun _ hk => hk.2) (.bool t678)) (fun _ hk => hk.2) (.bool t679)) (fun _ hk => hk.2) (.bool t680)) (fun _ h_ => h_.1)) (fun _ h_ => h_.1)))) hb); have n1_ := Aside0.mk (Kd.Q_below (kq ((Kd.Q_mono (Kd.Q_mono (Kd.Q_far (p := ⟨gb682, 7, none⟩) (Kd.Q_far (p := ⟨gb682, 6, none⟩) (Kd.Q_far (p := ⟨gb682, 5, none⟩) (Kd.Q_far (p := ⟨gb682, 4, none⟩) (Kd.Q_far (p := ⟨gb682, 3, none⟩) (Kd.Q_far (p := ⟨gb682, 2, none⟩) (Kd.Q_far (p := ⟨gb682, 1, none⟩) (Kd.Q_far (p := ⟨gb682, 0, none⟩) (Kd.Q_far (p := ⟨gb681, 1, none⟩) (Kd.Q_far (p := ⟨gb681, 0, none⟩) (Kd.Q_types (Kd.Q_types HO_650000.out BK681.out (by decide)) BK682.out (by decide)) (fun _ hk => hk.1.2) (.int .i64 t671)) (fun _ hk => hk.1.2) (.int .i64 t672)) (fun _ hk => hk.2) (.int .i64 t673)) (fun _ hk => hk.2) (.int .i64 t674)) (fun _ hk => hk.2) (.int .i64 t675)) (fun _ hk => hk.2) (.int .i64 t676)) (fun _ hk => hk.2) (.bool t677)) (fun _ hk => hk.2) (.bool t678)) (fun _ hk => hk.2) (.bool t679)) (fun _ hk => hk.2) (.bool t680)) (fun _ h_ => h_.1)) (fun _ h_ => h_.1)))) hb); have n2_ := Aside0.mk (blk_below (g := gb648) (o := .cells #[.slice Ao10 t640.length co10] 29 (0, 0)) (kf BK648.out) hb); have n3_ := Aside0.mk (blk_below (g := gb649) (o := .cells #[.slice Ao13 t643.length co13, .int .i64 t646] 32 (0, 0)) (kf BK649.out) hb); have n4_ := Aside0.mk (blk_below (g := gb652) (o := .cells #[.int .i64 t650, .int .i64 t651] 51 (0, 0)) (kf BK652.out) hb); have n5_ := Aside0.mk (blk_below (g := gb681) (o := .cells #[.int .i64 t671, .int .i64 t672] 51 (0, 0)) (by (with_reducible repeat (first | refine blk_drewN ?_ _ | refine blk_drew ?_ | refine blk_alloc ?_ _)); refine blk_far ?_ NB681_682.out _; (with_reducible repeat (first | refine blk_drewN ?_ _ | refine blk_drew ?_ | refine blk_alloc ?_ _)); refine blk_far ?_ NB681_682.out _; (with_reducible repeat (first | refine blk_drewN ?_ _ | refine blk_drew ?_ | refine blk_alloc ?_ _)); refine blk_far ?_ NB681_682.out _; (with_reducible repeat (first | refine blk_drewN ?_ _ | refine blk_drew ?_ | refine blk_alloc ?_ _)); refine blk_far ?_ NB681_682.out _; (with_reducible repeat (first | refine blk_drewN ?_ _ | refine blk_drew ?_ | refine blk_alloc ?_ _)); refine blk_far ?_ NB681_682.out _; (with_reducible repeat (first | refine blk_drewN ?_ _ | refine blk_drew ?_ | refine blk_alloc ?_ _)); refine blk_far ?_ NB681_682.out _; (with_reducible repeat (first | refine blk_drewN ?_ _ | refine blk_drew ?_ | refine blk_alloc ?_ _)); refine blk_far ?_ NB681_682.out _; (with_reducible repeat (first | refine blk_drewN ?_ _ | refine blk_drew ?_ | refine blk_alloc ?_ _)); refine blk_far ?_ NB681_682.out _; (with_reducible repeat (first | refine blk_drewN ?_ _ | refine blk_drew ?_ | refine blk_alloc ?_ _)); refine blk_put (cs := #[.int .i64 t671, .int .i64 0]) ?_ 1 _ rfl; (with_reducible repeat (first | refine blk_drewN ?_ _ | refine blk_drew ?_ | refine blk_alloc ?_ _)); refine blk_put (cs := #[.int .i64 0, .int .i64 0]) ?_ 0 _ rfl; (with_reducible repeat (first | refine blk_drewN ?_ _ | refine blk_drew ?_ | refine blk_alloc ?_ _)); exact BK681.out) hb); have n6_ := Aside0.mk (blk_below (g := gb682) (o := .cells #[.int .i64 t673, .int .i64 t674, .int .i64 t675, .int .i64 t676, .bool t677, .bool t678, .bool t679, .bool t680] 55 (0, 0)) (by (with_reducible repeat (first | refine blk_drewN ?_ _ | refine blk_drew ?_ | refine blk_alloc ?_ _)); refine blk_put (cs := #[.int .i64 t673, .int .i64 t674, .int .i64 t675, .int .i64 t676, .bool t677, .bool t678, .bool t679, .bool false]) ?_ 7 _ rfl; (with_reducible repeat (first | refine blk_drewN ?_ _ | refine blk_drew ?_ | refine blk_alloc ?_ _)); refine blk_put (cs := #[.int .i64 t673, .int .i64 t674, .int .i64 t675, .int .i64 t676, .bool t677, .bool t678, .bool false, .bool false]) ?_ 6 _ rfl; (with_reducible repeat (first | refine blk_drewN ?_ _ | refine blk_drew ?_ | refine blk_alloc ?_ _)); refine blk_put (cs := #[.int .i64 t673, .int .i64 t674, .int .i64 t675, .int .i64 t676, .bool t677, .bool false, .bool false, .bool false]) ?_ 5 _ rfl; (with_reducible repeat (first | refine blk_drewN ?_ _ | refine blk_drew ?_ | refine blk_alloc ?_ _)); refine blk_put (cs := #[.int .i64 t673, .int .i64 t674, .int .i64 t675, .int .i64 t676, .bool false, .bool false, .bool false, .bool false]) ?_ 4 _ rfl; (with_reducible repeat (first | refine blk_drewN ?_ _ | refine blk_drew ?_ | refine blk_alloc ?_ _)); refine blk_put (cs := #[.int .i64 t673, .int .i64 t674, .int .i64 t675, .int .i64 0, .bool false, .bool false, .bool false, .bool false]) ?_ 3 _ rfl; (with_reducible repeat (first | refine blk_drewN ?_ _ | refine blk_drew ?_ | refine blk_alloc ?_ _)); refine blk_put (cs := #[.int .i64 t673, .int .i64 t674, .int .i64 0, .int .i64 0, .bool false, .bool false, .bool false, .bool false]) ?_ 2 _ rfl; (with_reducible repeat (first | refine blk_drewN ?_ _ | refine blk_drew ?_ | refine blk_alloc ?_ _)); refine blk_put (cs := #[.int .i64 t673, .int .i64 0, .int .i64 0, .int .i64 0, .bool false, .bool false, .bool false, .bool false]) ?_ 1 _ rfl; (with_reducible repeat (first | refine blk_drewN ?_ _ | refine blk_drew ?_ | refine blk_alloc ?_ _)); refine blk_put (cs := #[.int .i64 0, .int .i64 0, .int .i64 0, .int .i64 0, .bool false, .bool false, .bool false, .bool false]) ?_ 0 _ rfl; (with_reducible repeat (first | refine blk_drewN ?_ _ | refine blk_drew ?_ | refine blk_alloc ?_ _)); refine blk_far ?_ NB682_681.out _; (with_reducible repeat (first | refine blk_drewN ?_ _ | refine blk_drew ?_ | refine blk_alloc ?_ _)); refine blk_far ?_ NB682_681.out _; (with_reducible repeat (first | refine blk_drewN ?_ _ | refine blk_drew ?_ | refine blk_alloc ?_ _)); exact BK682.out) hb); have n7_ := Aside0.mk (below_step (bw HB.out) hb); clear HO_649000; clear HO_650000; clear BK648; clear BK649; clear BK652; clear BK681; clear BK682; clear HB; have HO_649000 := n0_; have HO_650000 := n1_; have BK648 := n2_; have BK649 := n3_; have BK652 := n4_; have BK681 := n5_; have BK682 := n6_; have HB := n7_; clear n0_ n1_ n2_ n3_ n4_ n5_ n6_ n7_; (try clear hb); (try clear hb2); (try clear hk); (try clear hi); have hcz230_0 : w229.cell? ⟨gb681, 0, none⟩ = some (.int .i64 t671) := cl BK681 0; have hcz230_1 : w229.cell? ⟨gb681, 1, none⟩ = some (.int .i64 t672) := cl BK681 1; have hfz230_0 := blk_frozen BK681.out 0; have hfz230_1 := blk_frozen BK681.out 1; have hcz231_0 : w229.cell? ⟨gb682, 0, none⟩ = some (.int .i64 t673) := cl BK682 0; have hcz231_1 : w229.cell? ⟨gb682, 1, none⟩ = some (.int .i64 t674) := cl BK682 1; have hcz231_2 : w229.cell? ⟨gb682, 2, none⟩ = some (.int .i64 t675) := cl BK682 2; have hcz231_3 : w229.cell? ⟨gb682, 3, none⟩ = some (.int .i64 t676) := cl BK682 3; have hcz231_4 : w229.cell? ⟨gb682, 4, none⟩ = some (.bool t677) := cl BK682 4; have hcz231_5 : w229.cell? ⟨gb682, 5, none⟩ = some (.bool t678) := cl BK682 5; have hcz231_6 : w229.cell? ⟨gb682, 6, none⟩ = some (.bool t679) := cl BK682 6; have hcz231_7 : w229.cell? ⟨gb682, 7, none⟩ = some (.bool t680) := cl BK682 7; have hfz231_0 := blk_frozen BK682.out 0; have hfz231_1 := blk_frozen BK682.out 1; have hfz231_2 := blk_frozen BK682.out 2; have hfz231_3 := blk_frozen BK682.out 3; have hfz231_4 := blk_frozen BK682.out 4; have hfz231_5 := blk_frozen BK682.out 5; have hfz231_6 := blk_frozen BK682.out 6; have hfz231_7 := blk_frozen BK682.out 7) | ((with_reducible refine gate_callee (f := 42) rfl ?_); refine goesM_ (some 104) rfl rfl Try.func42 #[.agg #[.int .i64 t671, .int .i64 t672], .agg #[.int .i64 t673, .int .i64 t674, .int .i64 t675, .int .i64 t676, .bool t677, .bool t678, .bool t679, .bool t680]] ?_; (with_reducible refine (spec_Access.calls kj31 t671 t672 t673 t674 t675 t676 t677 t678 t679 t680 t686 t687 t688 _ A88.out).mono ?_); rintro e w232 ⟨rfl, hb⟩; refine ⟨_, rfl, ?_⟩; have n0_ := Aside0.mk (Kd.S_below (ks HO_649000.out) hb); have n1_ := Aside0.mk (Kd.Q_below (kq HO_650000.out) hb); have n2_ := Aside0.mk (blk_below (g := gb648) (o := .cells #[.slice Ao10 t640.length co10] 29 (0, 0)) (kb BK648.out) hb); have n3_ := Aside0.mk (blk_below (g := gb649) (o := .cells #[.slice Ao13 t643.length co13, .int .i64 t646] 32 (0, 0)) (kb BK649.out) hb); have n4_ := Aside0.mk (blk_below (g := gb652) (o := .cells #[.int .i64 t650, .int .i64 t651] 51 (0, 0)) (kb BK652.out) hb); have n5_ := Aside0.mk (blk_below (g := gb681) (o := .cells #[.int .i64 t671, .int .i64 t672] 51 (0, 0)) (kb BK681.out) hb); have n6_ := Aside0.mk (blk_below (g := gb682) (o := .cells #[.int .i64 t673, .int .i64 t674, .int .i64 t675, .int .i64 t676, .bool t677, .bool t678, .bool t679, .bool t680] 55 (0, 0)) (kb BK682.out) hb); have n7_ := Aside0.mk (below_step (bw HB.out) hb); clear HO_649000; clear HO_650000; clear BK648; clear BK649; clear BK652; clear BK681; clear BK682; clear HB; have HO_649000 := n0_; have HO_650000 := n1_; have BK648 := n2_; have BK649 := n3_; have BK652 := n4_; have BK681 := n5_; have BK682 := n6_; have HB := n7_; clear n0_ n1_ n2_ n3_ n4_ n5_ n6_ n7_; (try clear hb); (try clear hb2); (try clear hk); (try clear hi)) | ((with_reducible refine gate_callee (f := 43) rfl ?_); refine goesM_ (some 109) rfl rfl Try.func43 #[.slice A0 l0.length c0] ?_; (with_reducible refine (spec_DrawCpuNew.calls kj31 _ _ l0 t689 _ ?side1 ?side2 A89.out).mono ?_); (case side1 => exact kc (Kd.C_below HR0.out HB.out)); (case side2 => exact HC0.out); rintro e w233 ⟨v690, rfl, ho0, hb⟩; refine ⟨_, rfl, ?_⟩; have n0_ := Aside0.mk (Kd.S_elder' (ks HO_649000.out) (Kd.S_base ho0) hb); have n1_ := Aside0.mk (Kd.Q_below (kq HO_650000.out) hb); have n2_ := Aside0.mk (Kd.S_lower (Kd.S_new' (Kd.S_new' ho0 (Kd.S_lt (ks HO_649000.out))) (Kd.Q_lt (kq HO_650000.out))) (below_size (bw HB.out))); have n3_ := Aside0.mk (blk_below (g := gb648) (o := .cells #[.slice Ao10 t640.length co10] 29 (0, 0)) (kb BK648.out) hb); have n4_ := Aside0.mk (blk_below (g := gb649) (o := .cells #[.slice Ao13 t643.length co13, .int .i64 t646] 32 (0, 0)) (kb BK649.out) hb); have n5_ := Aside0.mk (blk_below (g := gb652) (o := .cells #[.int .i64 t650, .int .i64 t651] 51 (0, 0)) (kb BK652.out) hb); have n6_ := Aside0.mk (blk_below (g := gb681) (o := .cells #[.int .i64 t671, .int .i64 t672] 51 (0, 0)) (kb BK681.out) hb); have n7_ := Aside0.mk (blk_below (g := gb682) (o := .cells #[.int .i64 t673, .int .i64 t674, .int .i64 t675, .int .i64 t676, .bool t677, .bool t678, .bool t679, .bool t680] 55 (0, 0)) (kb BK682.out) hb); have n8_ := Aside0.mk (below_step (bw HB.out) hb); clear HO_649000; clear HO_650000; clear BK648; clear BK649; clear BK652; clear BK681; clear BK682; clear HB; have HO_649000 := n0_; have HO_650000 := n1_; have HO691 := n2_; have BK648 := n3_; have BK649 := n4_; have BK652 := n5_; have BK681 := n6_; have BK682 := n7_; have HB := n8_; clear n0_ n1_ n2_ n3_ n4_ n5_ n6_ n7_ n8_; (try clear hb); (try clear hb2); (try clear hk); (try clear hi); (try clear ho0)) | ((with_reducible refine gate_dst (N := 16) rfl ?_); refine bx (N := 16) (cs := #[.slice none 0 0]) (t := 29) ?_; intro gb692 hg w234 hbox hb; have n0_ := Aside0.mk (Kd.S_below (ks HO_649000.out) hb); have n1_ := Aside0.mk (Kd.Q_below (kq HO_650000.out) hb); have n2_ := Aside0.mk (Kd.S_below (ks HO691.out) hb); have n3_ := Aside0.mk (blk_below (g := gb648) (o := .cells #[.slice Ao10 t640.length co10] 29 (0, 0)) (kb BK648.out) hb); have n4_ := Aside0.mk (blk_below (g := gb649) (o := .cells #[.slice Ao13 t643.length co13, .int .i64 t646] 32 (0, 0)) (kb BK649.out) hb); have n5_ := Aside0.mk (blk_below (g := gb652) (o := .cells #[.int .i64 t650, .int .i64 t651] 51 (0, 0)) (kb BK652.out) hb); have n6_ := Aside0.mk (blk_below (g := gb681) (o := .cells #[.int .i64 t671, .int .i64 t672] 51 (0, 0)) (kb BK681.out) hb); have n7_ := Aside0.mk (blk_below (g := gb682) (o := .cells #[.int .i64 t673, .int .i64 t674, .int .i64 t675, .int .i64 t676, .bool t677, .bool t678, .bool t679, .bool t680] 55 (0, 0)) (kb BK682.out) hb); have n8_ := Aside0.mk (below_step (bw HB.out) hb); have n9_ := Aside0.mk (hbox); have n10_ := Aside0.mk ((gs hg (bw HB.out))); have n11_ := Aside0.mk ((gs hg (bw HB.out))); have n12_ := Aside0.mk ((ga hg BK648.out)); have n13_ := Aside0.mk ((gc hg BK648.out)); have n14_ := Aside0.mk ((ga hg BK649.out)); have n15_ := Aside0.mk ((gc hg BK649.out)); have n16_ := Aside0.mk ((ga hg BK652.out)); have n17_ := Aside0.mk ((gc hg BK652.out)); have n18_ := Aside0.mk ((ga hg BK681.out)); have n19_ := Aside0.mk ((gc hg BK681.out)); have n20_ := Aside0.mk ((ga hg BK682.out)); have n21_ := Aside0.mk ((gc hg BK682.out)); clear HO_649000; clear HO_650000; clear HO691; clear BK648; clear BK649; clear BK652; clear BK681; clear BK682; clear HB; have HO_649000 := n0_; have HO_650000 := n1_; have HO691 := n2_; have BK648 := n3_; have BK649 := n4_; have BK652 := n5_; have BK681 := n6_; have BK682 := n7_; have HB := n8_; have BK692 := n9_; have GW692 := n10_; have GE692 := n11_; have NB648_692 := n12_; have NB692_648 := n13_; have NB649_692 := n14_; have NB692_649 := n15_; have NB652_692 := n16_; have NB692_652 := n17_; have NB681_692 := n18_; have NB692_681 := n19_; have NB682_692 := n20_; have NB692_682 := n21_; clear n0_ n1_ n2_ n3_ n4_ n5_ n6_ n7_ n8_ n9_ n10_ n11_ n12_ n13_ n14_ n15_ n16_ n17_ n18_ n19_ n20_ n21_; clear hb hbox hg; obtain ⟨Ao235, co235, eo235⟩ := Kd.S_slice HO691.out; subst eo235; have hnb236 := NB692_648.out; have hnc236 := NB648_692.out; have hnb237 := NB692_649.out; have hnc237 := NB649_692.out; have hnb238 := NB692_652.out; have hnc238 := NB652_692.out; have hnb239 := NB692_681.out; have hnc239 := NB681_692.out; have hnb240 := NB692_682.out; have hnc240 := NB682_692.out; have hcz241_0 : w234.cell? ⟨gb692, 0, none⟩ = some (.slice none 0 0) := cl BK692 0; have hfz241_0 := blk_frozen BK692.out 0) | ((with_reducible refine gate_callee (f := 44) rfl ?_); refine goesM_ (some 111) rfl rfl Try.func44 #[.agg #[.slice Ao235 t689.length co235]] ?_; (with_reducible refine (impl_CpuNew.calls kj31 _ _ t689 t693 t694 t695 t696 t697 t698 t699 t700 _ ?side1 ?side2 A90.out).mono ?_); (case side1 => refine (Kd.S_reads' (d := cutK 3 (Kd.int .i64)) (e := 30) (base := w.heap.size) (ok := fun k_ => ((True ∧ some k_ ≠ (.slice Ao10 t640.length co10 : Value).ownBlock) ∧ some k_ ≠ (.slice Ao13 t643.length co13 : Value).ownBlock)) (n := t689.length) (c := co235) ?_).2.2; exact (ks ((Kd.S_mono (Kd.S_far (p := ⟨gb692, 0, none⟩) (Kd.S_types HO691.out BK692.out (by decide)) (fun _ hk => hk.2) (.slice Ao235 t689.length co235)) (fun _ h_ => h_.1))))); (case side2 => exact (Kd.S_reads' HO691.out).2.1); rintro e w242 ⟨rfl, hb⟩; refine ⟨_, rfl, ?_⟩; have n0_ := Aside0.mk (Kd.S_below (ks ((Kd.S_mono (Kd.S_far (p := ⟨gb692, 0, none⟩) (Kd.S_types HO_649000.out BK692.out (by decide)) (fun _ hk => hk.2) (.slice Ao235 t689.length co235)) (fun _ h_ => h_.1)))) hb); have n1_ := Aside0.mk (Kd.Q_below (kq ((Kd.Q_mono (Kd.Q_far (p := ⟨gb692, 0, none⟩) (Kd.Q_types HO_650000.out BK692.out (by decide)) (fun _ hk => hk.2) (.slice Ao235 t689.length co235)) (fun _ h_ => h_.1)))) hb); have n2_ := Aside0.mk (Kd.S_below (ks ((Kd.S_mono (Kd.S_far (p := ⟨gb692, 0, none⟩) (Kd.S_types HO691.out BK692.out (by decide)) (fun _ hk => hk.2) (.slice Ao235 t689.length co235)) (fun _ h_ => h_.1)))) hb); have n3_ := Aside0.mk (blk_below (g := gb648) (o := .cells #[.slice Ao10 t640.length co10] 29 (0, 0)) (kf BK648.out) hb); have n4_ := Aside0.mk (blk_below (g := gb649) (o := .cells #[.slice Ao13 t643.length co13, .int .i64 t646] 32 (0, 0)) (kf BK649.out) hb); have n5_ := Aside0.mk (blk_below (g := gb652) (o := .cells #[.int .i64 t650, .int .i64 t651] 51 (0, 0)) (kf BK652.out) hb); have n6_ := Aside0.mk (blk_below (g := gb681) (o := .cells #[.int .i64 t671, .int .i64 t672] 51 (0, 0)) (kf BK681.out) hb); have n7_ := Aside0.mk (blk_below (g := gb682) (o := .cells #[.int .i64 t673, .int .i64 t674, .int .i64 t675, .int .i64 t676, .bool t677, .bool t678, .bool t679, .bool t680] 55 (0, 0)) (kf BK682.out) hb); have n8_ := Aside0.mk (blk_below (g := gb692) (o := .cells #[.slice Ao235 t689.length co235] 29 (0, 0)) (kt BK692.out) hb); have n9_ := Aside0.mk (below_step (bw HB.out) hb); clear HO_649000; clear HO_650000; clear HO691; clear BK648; clear BK649; clear BK652; clear BK681; clear BK682; clear BK692; clear HB; have HO_649000 := n0_; have HO_650000 := n1_; have HO691 := n2_; have BK648 := n3_; have BK649 := n4_; have BK652 := n5_; have BK681 := n6_; have BK682 := n7_; have BK692 := n8_; have HB := n9_; clear n0_ n1_ n2_ n3_ n4_ n5_ n6_ n7_ n8_ n9_; (try clear hb); (try clear hb2); (try clear hk); (try clear hi)) | ((with_reducible refine gate_dst (N := 17) rfl ?_); refine bx (N := 17) (cs := #[.int .i64 0, .int .i64 0, .int .i64 0, .int .i64 0, .bool false, .bool false, .bool false, .bool false]) (t := 55) ?_; intro gb701 hg w243 hbox hb; have n0_ := Aside0.mk (Kd.S_below (ks HO_649000.out) hb); have n1_ := Aside0.mk (Kd.Q_below (kq HO_650000.out) hb); have n2_ := Aside0.mk (Kd.S_below (ks HO691.out) hb); have n3_ := Aside0.mk (blk_below (g := gb648) (o := .cells #[.slice Ao10 t640.length co10] 29 (0, 0)) (kb BK648.out) hb); have n4_ := Aside0.mk (blk_below (g := gb649) (o := .cells #[.slice Ao13 t643.length co13, .int .i64 t646] 32 (0, 0)) (kb BK649.out) hb); have n5_ := Aside0.mk (blk_below (g := gb652) (o := .cells #[.int .i64 t650, .int .i64 t651] 51 (0, 0)) (kb BK652.out) hb); have n6_ := Aside0.mk (blk_below (g := gb681) (o := .cells #[.int .i64 t671, .int .i64 t672] 51 (0, 0)) (kb BK681.out) hb); have n7_ := Aside0.mk (blk_below (g := gb682) (o := .cells #[.int .i64 t673, .int .i64 t674, .int .i64 t675, .int .i64 t676, .bool t677, .bool t678, .bool t679, .bool t680] 55 (0, 0)) (kb BK682.out) hb); have n8_ := Aside0.mk (blk_below (g := gb692) (o := .cells #[.slice Ao235 t689.length co235] 29 (0, 0)) (kb BK692.out) hb); have n9_ := Aside0.mk (below_step (bw HB.out) hb); have n10_ := Aside0.mk (hbox); have n11_ := Aside0.mk ((gs hg (bw HB.out))); have n12_ := Aside0.mk ((gs hg (bw HB.out))); have n13_ := Aside0.mk ((ga hg BK648.out)); have n14_ := Aside0.mk ((gc hg BK648.out)); have n15_ := Aside0.mk ((ga hg BK649.out)); have n16_ := Aside0.mk ((gc hg BK649.out)); have n17_ := Aside0.mk ((ga hg BK652.out)); have n18_ := Aside0.mk ((gc hg BK652.out)); have n19_ := Aside0.mk ((ga hg BK681.out)); have n20_ := Aside0.mk ((gc hg BK681.out)); have n21_ := Aside0.mk ((ga hg BK682.out)); have n22_ := Aside0.mk ((gc hg BK682.out)); have n23_ := Aside0.mk ((ga hg BK692.out)); have n24_ := Aside0.mk ((gc hg BK692.out)); clear HO_649000; clear HO_650000; clear HO691; clear BK648; clear BK649; clear BK652; clear BK681; clear BK682; clear BK692; clear HB; have HO_649000 := n0_; have HO_650000 := n1_; have HO691 := n2_; have BK648 := n3_; have BK649 := n4_; have BK652 := n5_; have BK681 := n6_; have BK682 := n7_; have BK692 := n8_; have HB := n9_; have BK701 := n10_; have GW701 := n11_; have GE701 := n12_; have NB648_701 := n13_; have NB701_648 := n14_; have NB649_701 := n15_; have NB701_649 := n16_; have NB652_701 := n17_; have NB701_652 := n18_; have NB681_701 := n19_; have NB701_681 := n20_; have NB682_701 := n21_; have NB701_682 := n22_; have NB692_701 := n23_; have NB701_692 := n24_; clear n0_ n1_ n2_ n3_ n4_ n5_ n6_ n7_ n8_ n9_ n10_ n11_ n12_ n13_ n14_ n15_ n16_ n17_ n18_ n19_ n20_ n21_ n22_ n23_ n24_; clear hb hbox hg; have hnb244 := NB701_648.out; have hnc244 := NB648_701.out; have hnb245 := NB701_649.out; have hnc245 := NB649_701.out; have hnb246 := NB701_652.out; have hnc246 := NB652_701.out; have hnb247 := NB701_681.out; have hnc247 := NB681_701.out; have hnb248 := NB701_682.out; have hnc248 := NB682_701.out; have hnb249 := NB701_692.out; have hnc249 := NB692_701.out; have hcz250_0 : w243.cell? ⟨gb701, 0, none⟩ = some (.int .i64 0) := cl BK701 0; have hcz250_1 : w243.cell? ⟨gb701, 1, none⟩ = some (.int .i64 0) := cl BK701 1; have hcz250_2 : w243.cell? ⟨gb701, 2, none⟩ = some (.int .i64 0) := cl BK701 2; have hcz250_3 : w243.cell? ⟨gb701, 3, none⟩ = some (.int .i64 0) := cl BK701 3; have hcz250_4 : w243.cell? ⟨gb701, 4, none⟩ = some (.bool false) := cl BK701 4; have hcz250_5 : w243.cell? ⟨gb701, 5, none⟩ = some (.bool false) := cl BK701 5; have hcz250_6 : w243.cell? ⟨gb701, 6, none⟩ = some (.bool false) := cl BK701 6; have hcz250_7 : w243.cell? ⟨gb701, 7, none⟩ = some (.bool false) := cl BK701 7; have hfz250_0 := blk_frozen BK701.out 0; have hfz250_1 := blk_frozen BK701.out 1; have hfz250_2 := blk_frozen BK701.out 2; have hfz250_3 := blk_frozen BK701.out 3; have hfz250_4 := blk_frozen BK701.out 4; have hfz250_5 := blk_frozen BK701.out 5; have hfz250_6 := blk_frozen BK701.out 6; have hfz250_7 := blk_frozen BK701.out 7))
                  have n0_ : Aside0 (Kd.S (cutK 3 (Kd.int .i64)) 30 ((((((((w243.setCell ⟨gb701, 0, none⟩ (.int .i64 t693)).setCell ⟨gb701, 1, none⟩ (.int .i64 t694)).setCell ⟨gb701, 2, none⟩ (.int .i64 t695)).setCell ⟨gb701, 3, none⟩ (.int .i64 t696)).setCell ⟨gb701, 4, none⟩ (.bool t697)).setCell ⟨gb701, 5, none⟩ (.bool t698)).setCell ⟨gb701, 6, none⟩ (.bool t699)).setCell ⟨gb701, 7, none⟩ (.bool t700)) w.heap.size (fun k_ => some k_ ≠ (.slice Ao13 t643.length co13 : Value).ownBlock ∧ some k_ ≠ (.slice Ao235 t689.length co235 : Value).ownBlock) (.slice Ao10 t640.length co10) t640) := ⟨ks (Kd.S_mono (Kd.S_far (p := ⟨gb701, 7, none⟩) (Kd.S_far (p := ⟨gb701, 6, none⟩) (Kd.S_far (p := ⟨gb701, 5, none⟩) (Kd.S_far (p := ⟨gb701, 4, none⟩) (Kd.S_far (p := ⟨gb701, 3, none⟩) (Kd.S_far (p := ⟨gb701, 2, none⟩) (Kd.S_far (p := ⟨gb701, 1, none⟩) (Kd.S_far (p := ⟨gb701, 0, none⟩) (Kd.S_types HO_649000.out BK701.out (by decide)) (fun _ hk => hk.2) (.int .i64 t693)) (fun _ hk => hk.2) (.int .i64 t694)) (fun _ hk => hk.2) (.int .i64 t695)) (fun _ hk => hk.2) (.int .i64 t696)) (fun _ hk => hk.2) (.bool t697)) (fun _ hk => hk.2) (.bool t698)) (fun _ hk => hk.2) (.bool t699)) (fun _ hk => hk.2) (.bool t700)) (fun _ hk => ⟨hk.1.1, hk.1.2⟩))⟩
                  have n1_ : Aside0 (Kd.Q (Kd.int .i64) 3 ((((((((w243.setCell ⟨gb701, 0, none⟩ (.int .i64 t693)).setCell ⟨gb701, 1, none⟩ (.int .i64 t694)).setCell ⟨gb701, 2, none⟩ (.int .i64 t695)).setCell ⟨gb701, 3, none⟩ (.int .i64 t696)).setCell ⟨gb701, 4, none⟩ (.bool t697)).setCell ⟨gb701, 5, none⟩ (.bool t698)).setCell ⟨gb701, 6, none⟩ (.bool t699)).setCell ⟨gb701, 7, none⟩ (.bool t700)) w.heap.size (fun _ => True) (.slice Ao13 t643.length co13) t643) := ⟨kq (Kd.Q_mono (Kd.Q_far (p := ⟨gb701, 7, none⟩) (Kd.Q_far (p := ⟨gb701, 6, none⟩) (Kd.Q_far (p := ⟨gb701, 5, none⟩) (Kd.Q_far (p := ⟨gb701, 4, none⟩) (Kd.Q_far (p := ⟨gb701, 3, none⟩) (Kd.Q_far (p := ⟨gb701, 2, none⟩) (Kd.Q_far (p := ⟨gb701, 1, none⟩) (Kd.Q_far (p := ⟨gb701, 0, none⟩) (Kd.Q_types HO_650000.out BK701.out (by decide)) (fun _ hk => hk.2) (.int .i64 t693)) (fun _ hk => hk.2) (.int .i64 t694)) (fun _ hk => hk.2) (.int .i64 t695)) (fun _ hk => hk.2) (.int .i64 t696)) (fun _ hk => hk.2) (.bool t697)) (fun _ hk => hk.2) (.bool t698)) (fun _ hk => hk.2) (.bool t699)) (fun _ hk => hk.2) (.bool t700)) (fun _ hk => trivial))⟩
                  have n2_ : Aside0 (Kd.S (cutK 3 (Kd.int .i64)) 30 ((((((((w243.setCell ⟨gb701, 0, none⟩ (.int .i64 t693)).setCell ⟨gb701, 1, none⟩ (.int .i64 t694)).setCell ⟨gb701, 2, none⟩ (.int .i64 t695)).setCell ⟨gb701, 3, none⟩ (.int .i64 t696)).setCell ⟨gb701, 4, none⟩ (.bool t697)).setCell ⟨gb701, 5, none⟩ (.bool t698)).setCell ⟨gb701, 6, none⟩ (.bool t699)).setCell ⟨gb701, 7, none⟩ (.bool t700)) w.heap.size (fun k_ => some k_ ≠ (.slice Ao10 t640.length co10 : Value).ownBlock ∧ some k_ ≠ (.slice Ao13 t643.length co13 : Value).ownBlock) (.slice Ao235 t689.length co235) t689) := ⟨ks (Kd.S_mono (Kd.S_far (p := ⟨gb701, 7, none⟩) (Kd.S_far (p := ⟨gb701, 6, none⟩) (Kd.S_far (p := ⟨gb701, 5, none⟩) (Kd.S_far (p := ⟨gb701, 4, none⟩) (Kd.S_far (p := ⟨gb701, 3, none⟩) (Kd.S_far (p := ⟨gb701, 2, none⟩) (Kd.S_far (p := ⟨gb701, 1, none⟩) (Kd.S_far (p := ⟨gb701, 0, none⟩) (Kd.S_types HO691.out BK701.out (by decide)) (fun _ hk => hk.2) (.int .i64 t693)) (fun _ hk => hk.2) (.int .i64 t694)) (fun _ hk => hk.2) (.int .i64 t695)) (fun _ hk => hk.2) (.int .i64 t696)) (fun _ hk => hk.2) (.bool t697)) (fun _ hk => hk.2) (.bool t698)) (fun _ hk => hk.2) (.bool t699)) (fun _ hk => hk.2) (.bool t700)) (fun _ hk => ⟨hk.1.1.2, hk.1.2⟩))⟩
                  have n3_ : Aside0 (((((((((w243.setCell ⟨gb701, 0, none⟩ (.int .i64 t693)).setCell ⟨gb701, 1, none⟩ (.int .i64 t694)).setCell ⟨gb701, 2, none⟩ (.int .i64 t695)).setCell ⟨gb701, 3, none⟩ (.int .i64 t696)).setCell ⟨gb701, 4, none⟩ (.bool t697)).setCell ⟨gb701, 5, none⟩ (.bool t698)).setCell ⟨gb701, 6, none⟩ (.bool t699)).setCell ⟨gb701, 7, none⟩ (.bool t700)).heap[gb648]? = some (.cells #[.slice Ao10 t640.length co10] 29 (0, 0))) := ⟨kf BK648.out⟩
                  have n4_ : Aside0 (((((((((w243.setCell ⟨gb701, 0, none⟩ (.int .i64 t693)).setCell ⟨gb701, 1, none⟩ (.int .i64 t694)).setCell ⟨gb701, 2, none⟩ (.int .i64 t695)).setCell ⟨gb701, 3, none⟩ (.int .i64 t696)).setCell ⟨gb701, 4, none⟩ (.bool t697)).setCell ⟨gb701, 5, none⟩ (.bool t698)).setCell ⟨gb701, 6, none⟩ (.bool t699)).setCell ⟨gb701, 7, none⟩ (.bool t700)).heap[gb649]? = some (.cells #[.slice Ao13 t643.length co13, .int .i64 t646] 32 (0, 0))) := ⟨kf BK649.out⟩
                  have n5_ : Aside0 (((((((((w243.setCell ⟨gb701, 0, none⟩ (.int .i64 t693)).setCell ⟨gb701, 1, none⟩ (.int .i64 t694)).setCell ⟨gb701, 2, none⟩ (.int .i64 t695)).setCell ⟨gb701, 3, none⟩ (.int .i64 t696)).setCell ⟨gb701, 4, none⟩ (.bool t697)).setCell ⟨gb701, 5, none⟩ (.bool t698)).setCell ⟨gb701, 6, none⟩ (.bool t699)).setCell ⟨gb701, 7, none⟩ (.bool t700)).heap[gb652]? = some (.cells #[.int .i64 t650, .int .i64 t651] 51 (0, 0))) := ⟨kf BK652.out⟩
                  have n6_ : Aside0 (((((((((w243.setCell ⟨gb701, 0, none⟩ (.int .i64 t693)).setCell ⟨gb701, 1, none⟩ (.int .i64 t694)).setCell ⟨gb701, 2, none⟩ (.int .i64 t695)).setCell ⟨gb701, 3, none⟩ (.int .i64 t696)).setCell ⟨gb701, 4, none⟩ (.bool t697)).setCell ⟨gb701, 5, none⟩ (.bool t698)).setCell ⟨gb701, 6, none⟩ (.bool t699)).setCell ⟨gb701, 7, none⟩ (.bool t700)).heap[gb681]? = some (.cells #[.int .i64 t671, .int .i64 t672] 51 (0, 0))) := ⟨kf BK681.out⟩
                  have n7_ : Aside0 (((((((((w243.setCell ⟨gb701, 0, none⟩ (.int .i64 t693)).setCell ⟨gb701, 1, none⟩ (.int .i64 t694)).setCell ⟨gb701, 2, none⟩ (.int .i64 t695)).setCell ⟨gb701, 3, none⟩ (.int .i64 t696)).setCell ⟨gb701, 4, none⟩ (.bool t697)).setCell ⟨gb701, 5, none⟩ (.bool t698)).setCell ⟨gb701, 6, none⟩ (.bool t699)).setCell ⟨gb701, 7, none⟩ (.bool t700)).heap[gb682]? = some (.cells #[.int .i64 t673, .int .i64 t674, .int .i64 t675, .int .i64 t676, .bool t677, .bool t678, .bool t679, .bool t680] 55 (0, 0))) := ⟨kf BK682.out⟩
                  have n8_ : Aside0 (((((((((w243.setCell ⟨gb701, 0, none⟩ (.int .i64 t693)).setCell ⟨gb701, 1, none⟩ (.int .i64 t694)).setCell ⟨gb701, 2, none⟩ (.int .i64 t695)).setCell ⟨gb701, 3, none⟩ (.int .i64 t696)).setCell ⟨gb701, 4, none⟩ (.bool t697)).setCell ⟨gb701, 5, none⟩ (.bool t698)).setCell ⟨gb701, 6, none⟩ (.bool t699)).setCell ⟨gb701, 7, none⟩ (.bool t700)).heap[gb692]? = some (.cells #[.slice Ao235 t689.length co235] 29 (0, 0))) := ⟨kf BK692.out⟩
                  have n9_ : Aside0 (((((((((w243.setCell ⟨gb701, 0, none⟩ (.int .i64 t693)).setCell ⟨gb701, 1, none⟩ (.int .i64 t694)).setCell ⟨gb701, 2, none⟩ (.int .i64 t695)).setCell ⟨gb701, 3, none⟩ (.int .i64 t696)).setCell ⟨gb701, 4, none⟩ (.bool t697)).setCell ⟨gb701, 5, none⟩ (.bool t698)).setCell ⟨gb701, 6, none⟩ (.bool t699)).setCell ⟨gb701, 7, none⟩ (.bool t700)).heap[gb701]? = some (.cells #[.int .i64 t693, .int .i64 t694, .int .i64 t695, .int .i64 t696, .bool t697, .bool t698, .bool t699, .bool t700] 55 (0, 0))) := ⟨by (with_reducible repeat (first | refine blk_drewN ?_ _ | refine blk_drew ?_ | refine blk_alloc ?_ _)); refine blk_put (cs := #[.int .i64 t693, .int .i64 t694, .int .i64 t695, .int .i64 t696, .bool t697, .bool t698, .bool t699, .bool false]) ?_ 7 _ rfl; (with_reducible repeat (first | refine blk_drewN ?_ _ | refine blk_drew ?_ | refine blk_alloc ?_ _)); refine blk_put (cs := #[.int .i64 t693, .int .i64 t694, .int .i64 t695, .int .i64 t696, .bool t697, .bool t698, .bool false, .bool false]) ?_ 6 _ rfl; (with_reducible repeat (first | refine blk_drewN ?_ _ | refine blk_drew ?_ | refine blk_alloc ?_ _)); refine blk_put (cs := #[.int .i64 t693, .int .i64 t694, .int .i64 t695, .int .i64 t696, .bool t697, .bool false, .bool false, .bool false]) ?_ 5 _ rfl; (with_reducible repeat (first | refine blk_drewN ?_ _ | refine blk_drew ?_ | refine blk_alloc ?_ _)); refine blk_put (cs := #[.int .i64 t693, .int .i64 t694, .int .i64 t695, .int .i64 t696, .bool false, .bool false, .bool false, .bool false]) ?_ 4 _ rfl; (with_reducible repeat (first | refine blk_drewN ?_ _ | refine blk_drew ?_ | refine blk_alloc ?_ _)); refine blk_put (cs := #[.int .i64 t693, .int .i64 t694, .int .i64 t695, .int .i64 0, .bool false, .bool false, .bool false, .bool false]) ?_ 3 _ rfl; (with_reducible repeat (first | refine blk_drewN ?_ _ | refine blk_drew ?_ | refine blk_alloc ?_ _)); refine blk_put (cs := #[.int .i64 t693, .int .i64 t694, .int .i64 0, .int .i64 0, .bool false, .bool false, .bool false, .bool false]) ?_ 2 _ rfl; (with_reducible repeat (first | refine blk_drewN ?_ _ | refine blk_drew ?_ | refine blk_alloc ?_ _)); refine blk_put (cs := #[.int .i64 t693, .int .i64 0, .int .i64 0, .int .i64 0, .bool false, .bool false, .bool false, .bool false]) ?_ 1 _ rfl; (with_reducible repeat (first | refine blk_drewN ?_ _ | refine blk_drew ?_ | refine blk_alloc ?_ _)); refine blk_put (cs := #[.int .i64 0, .int .i64 0, .int .i64 0, .int .i64 0, .bool false, .bool false, .bool false, .bool false]) ?_ 0 _ rfl; (with_reducible repeat (first | refine blk_drewN ?_ _ | refine blk_drew ?_ | refine blk_alloc ?_ _)); exact BK701.out⟩
                  have n10_ : Aside0 (Below w.heap.size w ((((((((w243.setCell ⟨gb701, 0, none⟩ (.int .i64 t693)).setCell ⟨gb701, 1, none⟩ (.int .i64 t694)).setCell ⟨gb701, 2, none⟩ (.int .i64 t695)).setCell ⟨gb701, 3, none⟩ (.int .i64 t696)).setCell ⟨gb701, 4, none⟩ (.bool t697)).setCell ⟨gb701, 5, none⟩ (.bool t698)).setCell ⟨gb701, 6, none⟩ (.bool t699)).setCell ⟨gb701, 7, none⟩ (.bool t700))) := ⟨bw HB.out⟩
                  (try clear HO_649000); (try clear HO_650000); (try clear HO691); (try clear BK648); (try clear BK649); (try clear BK652); (try clear BK681); (try clear BK682); (try clear BK692); (try clear BK701); (try clear HB)
                  generalize ((((((((w243.setCell ⟨gb701, 0, none⟩ (.int .i64 t693)).setCell ⟨gb701, 1, none⟩ (.int .i64 t694)).setCell ⟨gb701, 2, none⟩ (.int .i64 t695)).setCell ⟨gb701, 3, none⟩ (.int .i64 t696)).setCell ⟨gb701, 4, none⟩ (.bool t697)).setCell ⟨gb701, 5, none⟩ (.bool t698)).setCell ⟨gb701, 6, none⟩ (.bool t699)).setCell ⟨gb701, 7, none⟩ (.bool t700)) = w251 at n0_ n1_ n2_ n3_ n4_ n5_ n6_ n7_ n8_ n9_ n10_ ⊢
                  have HO_649000 := n0_; have HO_650000 := n1_; have HO691 := n2_; have BK648 := n3_; have BK649 := n4_; have BK652 := n5_; have BK681 := n6_; have BK682 := n7_; have BK692 := n8_; have BK701 := n9_; have HB := n10_; clear n0_ n1_ n2_ n3_ n4_ n5_ n6_ n7_ n8_ n9_ n10_
                  have n0_ := Aside0.mk (Kd.S_drew HO_649000.out)
                  have n1_ := Aside0.mk (Kd.Q_drew HO_650000.out)
                  have n2_ := Aside0.mk (Kd.S_drew HO691.out)
                  have n3_ := Aside0.mk (blk_drew BK648.out)
                  have n4_ := Aside0.mk (blk_drew BK649.out)
                  have n5_ := Aside0.mk (blk_drew BK652.out)
                  have n6_ := Aside0.mk (blk_drew BK681.out)
                  have n7_ := Aside0.mk (blk_drew BK682.out)
                  have n8_ := Aside0.mk (blk_drew BK692.out)
                  have n9_ := Aside0.mk (blk_drew BK701.out)
                  have n10_ := Aside0.mk (below_drew1 HB.out)
                  clear HO_649000; clear HO_650000; clear HO691; clear BK648; clear BK649; clear BK652; clear BK681; clear BK682; clear BK692; clear BK701; clear HB; have HO_649000 := n0_; have HO_650000 := n1_; have HO691 := n2_; have BK648 := n3_; have BK649 := n4_; have BK652 := n5_; have BK681 := n6_; have BK682 := n7_; have BK692 := n8_; have BK701 := n9_; have HB := n10_; clear n0_ n1_ n2_ n3_ n4_ n5_ n6_ n7_ n8_ n9_ n10_
                  refine start_ (n := 52) (S := fun w' => w'.cell? ⟨gb681, 0, none⟩ = some (.int .i64 t671) ∧ w'.cell? ⟨gb681, 1, none⟩ = some (.int .i64 t672) ∧ w'.cell? ⟨gb701, 0, none⟩ = some (.int .i64 t693) ∧ w'.cell? ⟨gb701, 1, none⟩ = some (.int .i64 t694) ∧ w'.cell? ⟨gb701, 2, none⟩ = some (.int .i64 t695) ∧ w'.cell? ⟨gb701, 3, none⟩ = some (.int .i64 t696) ∧ w'.cell? ⟨gb701, 4, none⟩ = some (.bool t697) ∧ w'.cell? ⟨gb701, 5, none⟩ = some (.bool t698) ∧ w'.cell? ⟨gb701, 6, none⟩ = some (.bool t699) ∧ w'.cell? ⟨gb701, 7, none⟩ = some (.bool t700) ∧ w'.cell? ⟨gb692, 0, none⟩ = some (.slice Ao235 t689.length co235)) (ds := []) (bm 52 0) (by kernel_rfl) rfl (by kernel_rfl) ⟨cl BK681 0, cl BK681 1, cl BK701 0, cl BK701 1, cl BK701 2, cl BK701 3, cl BK701 4, cl BK701 5, cl BK701 6, cl BK701 7, cl BK692 0⟩ (fun hHeld => ?_); refine with_tabW laws_FnFetched.tab15 laws_FnFetched.bits15 (fun HT_ HW_ => ?_)
                  generalize w251.drew = w252 at HO_649000 HO_650000 HO691 BK648 BK649 BK652 BK681 BK682 BK692 BK701 HB hHeld ⊢
                  refine pw_ 0 (some 112) (bm 52 1) HT_ ?_
                  refine pw_ 1 (some 113) (bm 52 3) HT_ ?_
                  refine pw_ 2 (some 114) (bm 52 7) HT_ ?_
                  refine pw_ 3 (some 115) (bm 52 15) HT_ ?_
                  refine pw_ 4 (some 116) (bm 52 31) HT_ ?_
                  refine pw_ 5 (some 117) (bm 52 63) HT_ ?_
                  refine pw_ 6 (some 118) (bm 52 127) HT_ ?_
                  refine pw_ 7 (some 119) (bm 52 255) HT_ ?_
                  refine pw_ 8 (some 120) (bm 52 511) HT_ ?_
                  refine pw_ 9 (some 121) (bm 52 1023) HT_ ?_
                  refine pw_ 10 (some 122) (bm 52 2047) HT_ ?_
                  refine pw_ 11 (some 123) (bm 52 4095) HT_ ?_
                  refine pw_ 12 (some 124) (bm 52 8191) HT_ ?_
                  refine pw_ 13 (some 125) (bm 52 16383) HT_ ?_
                  refine pw_ 14 (some 126) (bm 52 32767) HT_ ?_
                  refine pw_ 15 (some 127) (bm 52 65535) HT_ ?_
                  refine tw_ 16 (some 128) (bm 52 131071) HT_ HW_ hHeld ?_
                  refine ow_ 17 (some 129) (bm 52 262143) HT_ (fun K hK => ?_)
                  refine gw_ Try.func45 #[.int .i64 t671] ?_
                  with_reducible refine (impl_OpAccess.calls kj31 t671 t702 _ A94.out).mono ?_
                  rintro e w' ⟨rfl, ⟨nd, rfl⟩⟩
                  refine ⟨_, rfl, ?_⟩
                  have n0_ := Aside0.mk (Kd.S_drewN HO_649000.out nd)
                  have n1_ := Aside0.mk (Kd.Q_drewN HO_650000.out nd)
                  have n2_ := Aside0.mk (Kd.S_drewN HO691.out nd)
                  have n3_ := Aside0.mk (blk_drewN BK648.out nd)
                  have n4_ := Aside0.mk (blk_drewN BK649.out nd)
                  have n5_ := Aside0.mk (blk_drewN BK652.out nd)
                  have n6_ := Aside0.mk (blk_drewN BK681.out nd)
                  have n7_ := Aside0.mk (blk_drewN BK682.out nd)
                  have n8_ := Aside0.mk (blk_drewN BK692.out nd)
                  have n9_ := Aside0.mk (blk_drewN BK701.out nd)
                  have n10_ := Aside0.mk (pw_below_drewN HB.out nd)
                  clear HO_649000; clear HO_650000; clear HO691; clear BK648; clear BK649; clear BK652; clear BK681; clear BK682; clear BK692; clear BK701; clear HB; have HO_649000 := n0_; have HO_650000 := n1_; have HO691 := n2_; have BK648 := n3_; have BK649 := n4_; have BK652 := n5_; have BK681 := n6_; have BK682 := n7_; have BK692 := n8_; have BK701 := n9_; have HB := n10_; clear n0_ n1_ n2_ n3_ n4_ n5_ n6_ n7_ n8_ n9_ n10_
                  generalize w252.drewN nd = w252 at HO_649000 HO_650000 HO691 BK648 BK649 BK652 BK681 BK682 BK692 BK701 HB ⊢
                  refine hK.out _ _ ⟨cl BK681 0, cl BK681 1, cl BK701 0, cl BK701 1, cl BK701 2, cl BK701 3, cl BK701 4, cl BK701 5, cl BK701 6, cl BK701 7, cl BK692 0⟩ (fun hHeld => ?_)
                  clear hK K
                  refine nw_ ?_
                  refine pw_ 18 (some 130) (bm 52 524287) HT_ ?_
                  refine pw_ 19 (some 131) (bm 52 1048575) HT_ ?_
                  refine pw_ 20 (some 132) (bm 52 2097151) HT_ ?_
                  refine pw_ 21 (some 133) (bm 52 4194303) HT_ ?_
                  refine pw_ 22 (some 134) (bm 52 8388607) HT_ ?_
                  refine pw_ 23 (some 135) (bm 52 16777215) HT_ ?_
                  refine pw_ 24 (some 136) (bm 52 33554431) HT_ ?_
                  refine pw_ 25 (some 137) (bm 52 67108863) HT_ ?_
                  refine pw_ 26 (some 138) (bm 52 134217727) HT_ ?_
                  refine pw_ 27 (some 139) (bm 52 268435455) HT_ ?_
                  refine pw_ 28 (some 140) (bm 52 536870911) HT_ ?_
                  refine pw_ 29 (some 141) (bm 52 1073741823) HT_ ?_
                  refine pw_ 30 (some 142) (bm 52 2147483647) HT_ ?_
                  refine pw_ 31 (some 143) (bm 52 4294967295) HT_ ?_
                  refine pw_ 32 (some 144) (bm 52 8589934591) HT_ ?_
                  refine pw_ 33 (some 145) (bm 52 17179869183) HT_ ?_
                  refine pw_ 34 (some 146) (bm 52 34359738367) HT_ ?_
                  refine pw_ 35 (some 147) (bm 52 68719476735) HT_ ?_
                  refine pw_ 36 (some 148) (bm 52 137438953471) HT_ ?_
                  refine tw_ 37 (some 149) (bm 52 274877906943) HT_ HW_ hHeld ?_
                  refine tw_ 38 (some 150) (bm 52 549755813887) HT_ HW_ hHeld ?_
                  refine ow_ 39 (some 151) (bm 52 1099511627775) HT_ (fun K hK => ?_)
                  refine gw_ Try.func46 #[.agg #[.slice Ao235 t689.length co235]] ?_
                  with_reducible refine (spec_CpuNew.calls kj31 _ _ t689 t693 t694 t695 t696 t697 t698 t699 t700 _ ?side1 ?side2 A214.out).mono ?_
                  (case side1 => exact kc (Kd.S_reads' HO691.out).2.2)
                  (case side2 => exact (Kd.S_reads' HO691.out).2.1)
                  rintro e w253 ⟨rfl, hb⟩
                  refine ⟨_, rfl, ?_⟩
                  have n0_ := Aside0.mk (Kd.S_below (ks HO_649000.out) hb)
                  have n1_ := Aside0.mk (Kd.Q_below (kq HO_650000.out) hb)
                  have n2_ := Aside0.mk (Kd.S_below (ks HO691.out) hb)
                  have n3_ := Aside0.mk (blk_below (g := gb648) (o := .cells #[.slice Ao10 t640.length co10] 29 (0, 0)) (kb BK648.out) hb)
                  have n4_ := Aside0.mk (blk_below (g := gb649) (o := .cells #[.slice Ao13 t643.length co13, .int .i64 t646] 32 (0, 0)) (kb BK649.out) hb)
                  have n5_ := Aside0.mk (blk_below (g := gb652) (o := .cells #[.int .i64 t650, .int .i64 t651] 51 (0, 0)) (kb BK652.out) hb)
                  have n6_ := Aside0.mk (blk_below (g := gb681) (o := .cells #[.int .i64 t671, .int .i64 t672] 51 (0, 0)) (kb BK681.out) hb)
                  have n7_ := Aside0.mk (blk_below (g := gb682) (o := .cells #[.int .i64 t673, .int .i64 t674, .int .i64 t675, .int .i64 t676, .bool t677, .bool t678, .bool t679, .bool t680] 55 (0, 0)) (kb BK682.out) hb)
                  have n8_ := Aside0.mk (blk_below (g := gb692) (o := .cells #[.slice Ao235 t689.length co235] 29 (0, 0)) (kb BK692.out) hb)
                  have n9_ := Aside0.mk (blk_below (g := gb701) (o := .cells #[.int .i64 t693, .int .i64 t694, .int .i64 t695, .int .i64 t696, .bool t697, .bool t698, .bool t699, .bool t700] 55 (0, 0)) (kb BK701.out) hb)
                  have n10_ := Aside0.mk (below_step (bw HB.out) hb)
                  clear HO_649000; clear HO_650000; clear HO691; clear BK648; clear BK649; clear BK652; clear BK681; clear BK682; clear BK692; clear BK701; clear HB; have HO_649000 := n0_; have HO_650000 := n1_; have HO691 := n2_; have BK648 := n3_; have BK649 := n4_; have BK652 := n5_; have BK681 := n6_; have BK682 := n7_; have BK692 := n8_; have BK701 := n9_; have HB := n10_; clear n0_ n1_ n2_ n3_ n4_ n5_ n6_ n7_ n8_ n9_ n10_; (try clear hb); (try clear hb2); (try clear hk); (try clear hi)
                  refine hK.out _ _ ⟨cl BK681 0, cl BK681 1, cl BK701 0, cl BK701 1, cl BK701 2, cl BK701 3, cl BK701 4, cl BK701 5, cl BK701 6, cl BK701 7, cl BK692 0⟩ (fun hHeld => ?_)
                  clear hK K
                  refine nw_ ?_
                  refine pw_ 40 (some 152) (bm 52 2199023255551) HT_ ?_
                  refine pw_ 41 (some 153) (bm 52 4398046511103) HT_ ?_
                  refine pw_ 42 (some 154) (bm 52 8796093022207) HT_ ?_
                  refine pw_ 43 (some 155) (bm 52 17592186044415) HT_ ?_
                  refine tw_ 44 (some 156) (bm 52 35184372088831) HT_ HW_ hHeld ?_
                  refine pw_ 45 (some 157) (bm 52 70368744177663) HT_ ?_
                  refine pw_ 46 (some 158) (bm 52 140737488355327) HT_ ?_
                  refine pw_ 47 (some 159) (bm 52 281474976710655) HT_ ?_
                  refine pw_ 48 (some 160) (bm 52 562949953421311) HT_ ?_
                  refine tw_ 49 (some 161) (bm 52 1125899906842623) HT_ HW_ hHeld ?_
                  refine pw_ 50 (some 162) (bm 52 2251799813685247) HT_ ?_
                  refine pw_ 51 (some 2) (bm 52 4503599627370495) HT_ ?_
                  refine done_ (done_of HT_.out (by kernel_rfl)) ?_
                  try go_wp2
                  go_ret
                  exact ⟨rt, bw HB.out⟩
                 ·rw [if_neg c216] at H
                  have c216b0 : (t695 == 255) = false := beq_eq_false_iff_ne.mpr c216
                  have c216b1 : (t695 != 255) = true := bne_iff_ne.mpr c216
                  exact absurd ((Option.some.inj H).trans hrt) (by decide)
                ·rw [if_neg c215] at H
                 have c215b0 : (t693 == t711 && (t694 == t712 && (t695 == t713 && (t696 == t714 && (t697 == t715 && (t698 == t716 && (t699 == t717 && (t700 == t718)))))))) = false := by simpa using c215
                 (try (have c215b1 : decide (t693 = t711 && (t694 == t712 && (t695 == t713 && (t696 == t714 && (t697 == t715 && (t698 == t716 && (t699 == t717 && (t700 == t718)))))))) = false := by simpa using c215))
                 (try (have c215b2 : (t693 == t711 && (t694 == t712 && (t695 == t713 && (t696 == t714 && (t697 == t715 && (t698 == t716 && (t699 == t717 && (t700 == t718)))))))) = false := by simpa using c215))
                 (try (have c215b3 : ¬ (t693 = t711 && (t694 == t712 && (t695 == t713 && (t696 == t714 && (t697 == t715 && (t698 == t716 && (t699 == t717 && (t700 == t718)))))))) := by simpa using c215))
                 clear c215
                 exact absurd ((Option.some.inj H).trans hrt) (by decide)
               ·rw [if_neg c213] at H
                have c213b0 : (t685 == 0) = false := beq_eq_false_iff_ne.mpr c213
                have c213b1 : (t685 != 0) = true := bne_iff_ne.mpr c213
                exact absurd ((Option.some.inj H).trans hrt) (by decide)
             ·rw [if_neg c97] at H
              have c97b0 : decide (t684 ≤ 65535) = false := decide_eq_false c97
              clear c97
              exact absurd ((Option.some.inj H).trans hrt) (by decide)
            ·rw [if_neg c96] at H
             have c96b0 : decide (0 ≤ t684) = false := decide_eq_false c96
             clear c96
             exact absurd ((Option.some.inj H).trans hrt) (by decide)
           ·rw [if_neg c95] at H
            have c95b0 : (t683 == t702) = false := beq_eq_false_iff_ne.mpr c95
            have c95b1 : (t683 != t702) = true := bne_iff_ne.mpr c95
            exact absurd ((Option.some.inj H).trans hrt) (by decide)
          ·rw [if_neg c93] at H
           have c93b0 : (t685 == t688) = false := beq_eq_false_iff_ne.mpr c93
           have c93b1 : (t685 != t688) = true := bne_iff_ne.mpr c93
           exact absurd ((Option.some.inj H).trans hrt) (by decide)
         ·rw [if_neg c92] at H
          have c92b0 : (t684 == t687) = false := beq_eq_false_iff_ne.mpr c92
          have c92b1 : (t684 != t687) = true := bne_iff_ne.mpr c92
          exact absurd ((Option.some.inj H).trans hrt) (by decide)
        ·rw [if_neg c91] at H
         have c91b0 : (t683 == t686) = false := beq_eq_false_iff_ne.mpr c91
         have c91b1 : (t683 != t686) = true := bne_iff_ne.mpr c91
         exact absurd ((Option.some.inj H).trans hrt) (by decide)

end Go.Proofs.Ytmkccgbfgebfbaa.MFnFetched
