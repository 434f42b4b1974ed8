/- Walks of functions that the law FnFlags reaches: each comes to just what its Lean function says. (Begun as the texts that print.sh wrote for this claim; some of them, and those that it does not write, are mine.) No condition. -/
import Derived.Test.YtcdfkemhigmnlaaMFnFlagsx2
namespace Go.Proofs.Ytcdfkemhigmnlaa.MFnFlags
open Go.RowKit Go.Proofs.YtcdfkemhigmnlaaW.PrintWords Go.Proofs.YtcdfkemhigmnlaaW.PrintLast Go.Proofs.YtcdfkemhigmnlaaW.PrintMore
attribute [local go_sem] max2_int min2_int max_two min_two max_three min_three max_four min_four   -- for this text's walks alone
set_option linter.unusedVariables false
set_option linter.unusedSimpArgs false

/-! ### laws_FnFlags: function 13 -/
def laws_FnFlags.j0 : Nat → List Int → Bool → Int → Int → Int → Int → Bool → Bool → Bool → Bool → Int → Int → Int → Int → Bool → Bool → Bool → Bool → Option (Bool)
 | 0, _, _, _, _, _, _, _, _, _, _, _, _, _, _, _, _, _, _ => none
 | k + 1, x0, x46, x284000, x284001, x284002, x284003, x284004, x284005, x284006, x284007, x293000, x293001, x293002, x293003, x293004, x293005, x293006, x293007 => if x46 = true then (some false) else ((spec_DrawSetA.f k x0).bind fun bt313 => ((impl_SetA.f bt313.1 bt313.2.1 bt313.2.2.1 bt313.2.2.2.1 bt313.2.2.2.2.1 bt313.2.2.2.2.2.1 bt313.2.2.2.2.2.2.1 bt313.2.2.2.2.2.2.2.1 bt313.2.2.2.2.2.2.2.2).bind fun bt323 => ((impl_SetX.f bt313.1 bt313.2.1 bt313.2.2.1 bt313.2.2.2.1 bt313.2.2.2.2.1 bt313.2.2.2.2.2.1 bt313.2.2.2.2.2.2.1 bt313.2.2.2.2.2.2.2.1 bt313.2.2.2.2.2.2.2.2).bind fun bt331 => ((impl_Byte.f bt313.2.2.2.2.2.2.2.2).bind fun t341 => (if bt323.1 = t341 then ((impl_Byte.f bt313.2.2.2.2.2.2.2.2).bind fun t342 => (if bt331.2.1 = t342 then (if bt323.2.1 = bt313.2.1 then (if bt331.1 = bt313.1 then (if (bt323.2.2.2.2.1 == (bt323.1 == 0)) = true then (if (bt331.2.2.2.2.2.1 == (decide (bt331.2.1 > 127))) = true then (if (bt323.2.2.2.2.2.2.1 == bt313.2.2.2.2.2.2.1) = true then (if x293000 = x284000 then (some (x293003 == x284003)) else (some false)) else (some false)) else (some false)) else (some false)) else (some false)) else (some false)) else (some false))) else (some false))))))
def laws_FnFlags.f (k : Nat) (l0 : List Int) : Option (Bool) := (laws_big.f l0).bind fun t273 => (if t273 = true then (some true) else ((spec_DrawWithFlags.f k l0).bind fun bt274 => ((impl_WithFlags.f bt274.1 bt274.2.1 bt274.2.2.1 bt274.2.2.2.1 bt274.2.2.2.2.1 bt274.2.2.2.2.2.1 bt274.2.2.2.2.2.2.1 bt274.2.2.2.2.2.2.2.1 bt274.2.2.2.2.2.2.2.2).bind fun bt284 => ((spec_WithFlags.f bt274.1 bt274.2.1 bt274.2.2.1 bt274.2.2.2.1 bt274.2.2.2.2.1 bt274.2.2.2.2.2.1 bt274.2.2.2.2.2.2.1 bt274.2.2.2.2.2.2.2.1 bt274.2.2.2.2.2.2.2.2).bind fun bt293 => (if (!(bt284.1 == bt293.1) || (!(bt284.2.1 == bt293.2.1) || (!(bt284.2.2.1 == bt293.2.2.1) || (!(bt284.2.2.2.1 == bt293.2.2.2.1) || (!(bt284.2.2.2.2.1 == bt293.2.2.2.2.1) || (!(bt284.2.2.2.2.2.1 == bt293.2.2.2.2.2.1) || (!(bt284.2.2.2.2.2.2.1 == bt293.2.2.2.2.2.2.1) || (!(bt284.2.2.2.2.2.2.2 == bt293.2.2.2.2.2.2.2))))))))) = true then (laws_FnFlags.j0 k l0 true bt274.1 bt274.2.1 bt274.2.2.1 bt274.2.2.2.1 bt274.2.2.2.2.1 bt274.2.2.2.2.2.1 bt274.2.2.2.2.2.2.1 bt274.2.2.2.2.2.2.2.1 bt284.1 bt284.2.1 bt284.2.2.1 bt284.2.2.2.1 bt284.2.2.2.2.1 bt284.2.2.2.2.2.1 bt284.2.2.2.2.2.2.1 bt284.2.2.2.2.2.2.2) else ((impl_Flags.f bt284.1 bt284.2.1 bt284.2.2.1 bt284.2.2.2.1 bt284.2.2.2.2.1 bt284.2.2.2.2.2.1 bt284.2.2.2.2.2.2.1 bt284.2.2.2.2.2.2.2).bind fun t301 => (if t301 = (Go.bits .and .i64 bt274.2.2.2.2.2.2.2.2 135) then ((impl_Flags.f bt284.1 bt284.2.1 bt284.2.2.1 bt284.2.2.2.1 bt284.2.2.2.2.1 bt284.2.2.2.2.2.1 bt284.2.2.2.2.2.2.1 bt284.2.2.2.2.2.2.2).bind fun t302 => ((impl_WithFlags.f bt284.1 bt284.2.1 bt284.2.2.1 bt284.2.2.2.1 bt284.2.2.2.2.1 bt284.2.2.2.2.2.1 bt284.2.2.2.2.2.2.1 bt284.2.2.2.2.2.2.2 t302).bind fun bt303 => (if (!(bt303.1 == bt284.1) || (!(bt303.2.1 == bt284.2.1) || (!(bt303.2.2.1 == bt284.2.2.1) || (!(bt303.2.2.2.1 == bt284.2.2.2.1) || (!(bt303.2.2.2.2.1 == bt284.2.2.2.2.1) || (!(bt303.2.2.2.2.2.1 == bt284.2.2.2.2.2.1) || (!(bt303.2.2.2.2.2.2.1 == bt284.2.2.2.2.2.2.1) || (!(bt303.2.2.2.2.2.2.2 == bt284.2.2.2.2.2.2.2))))))))) = true then (laws_FnFlags.j0 k l0 true bt274.1 bt274.2.1 bt274.2.2.1 bt274.2.2.2.1 bt274.2.2.2.2.1 bt274.2.2.2.2.2.1 bt274.2.2.2.2.2.2.1 bt274.2.2.2.2.2.2.2.1 bt284.1 bt284.2.1 bt284.2.2.1 bt284.2.2.2.1 bt284.2.2.2.2.1 bt284.2.2.2.2.2.1 bt284.2.2.2.2.2.2.1 bt284.2.2.2.2.2.2.2) else ((impl_CpuOk.f bt274.1 bt274.2.1 bt274.2.2.1 bt274.2.2.2.1 bt274.2.2.2.2.1 bt274.2.2.2.2.2.1 bt274.2.2.2.2.2.2.1 bt274.2.2.2.2.2.2.2.1).bind fun t311 => ((spec_CpuOk.f bt274.1 bt274.2.1 bt274.2.2.1 bt274.2.2.2.1 bt274.2.2.2.2.1 bt274.2.2.2.2.2.1 bt274.2.2.2.2.2.2.1 bt274.2.2.2.2.2.2.2.1).bind fun t312 => (laws_FnFlags.j0 k l0 (t311 != t312) bt274.1 bt274.2.1 bt274.2.2.1 bt274.2.2.2.1 bt274.2.2.2.2.1 bt274.2.2.2.2.2.1 bt274.2.2.2.2.2.2.1 bt274.2.2.2.2.2.2.2.1 bt284.1 bt284.2.1 bt284.2.2.1 bt284.2.2.2.1 bt284.2.2.2.2.1 bt284.2.2.2.2.2.1 bt284.2.2.2.2.2.2.1 bt284.2.2.2.2.2.2.2)))))) else (laws_FnFlags.j0 k l0 true bt274.1 bt274.2.1 bt274.2.2.1 bt274.2.2.2.1 bt274.2.2.2.2.1 bt274.2.2.2.2.2.1 bt274.2.2.2.2.2.2.1 bt274.2.2.2.2.2.2.2.1 bt284.1 bt284.2.1 bt284.2.2.1 bt284.2.2.2.1 bt284.2.2.2.2.1 bt284.2.2.2.2.2.1 bt284.2.2.2.2.2.2.1 bt284.2.2.2.2.2.2.2))))))))
theorem laws_FnFlags.mono_l : ∀ k, (∀ y0 y1 y2 y3 y4 y5 y6 y7 y8 y9 y10 y11 y12 y13 y14 y15 y16 y17, LeO (laws_FnFlags.j0 k y0 y1 y2 y3 y4 y5 y6 y7 y8 y9 y10 y11 y12 y13 y14 y15 y16 y17) (laws_FnFlags.j0 (k + 1) y0 y1 y2 y3 y4 y5 y6 y7 y8 y9 y10 y11 y12 y13 y14 y15 y16 y17))
 | 0 => fun _ _ _ _ _ _ _ _ _ _ _ _ _ _ _ _ _ _ r h => by simp [laws_FnFlags.j0] at h
 | k + 1 => by
  have ih0 := laws_FnFlags.mono_l k
  ·intro y0 y1 y2 y3 y4 y5 y6 y7 y8 y9 y10 y11 y12 y13 y14 y15 y16 y17
   unfold laws_FnFlags.j0
   repeat' first
   | (with_reducible exact ih0 _ _ _ _ _ _ _ _ _ _ _ _ _ _ _ _ _ _)
   | (with_reducible exact spec_DrawSetA.mono _ _)
   | (with_reducible exact spec_DrawWithFlags.mono _ _)
   | (with_reducible exact LeO.refl _)
   | (with_reducible exact LeO.none _)
   | (with_reducible refine LeO.ite ?_ ?_)
   | (with_reducible refine LeO.bind ?_ (fun _ => ?_))
   | exact ih0 _ _ _ _ _ _ _ _ _ _ _ _ _ _ _ _ _ _
   | exact spec_DrawSetA.mono _ _
   | exact spec_DrawWithFlags.mono _ _
   | exact LeO.none _
   | refine LeO.ite ?_ ?_
   | refine LeO.bind ?_ (fun _ => ?_)
theorem laws_FnFlags.mono : ∀ a0 k, LeO (laws_FnFlags.f k a0) (laws_FnFlags.f (k + 1) a0) := by
 intro a0 k
 have ih0 := laws_FnFlags.mono_l k
 unfold laws_FnFlags.f
 repeat' first
   | (with_reducible exact ih0 _ _ _ _ _ _ _ _ _ _ _ _ _ _ _ _ _ _)
   | (with_reducible exact spec_DrawSetA.mono _ _)
   | (with_reducible exact spec_DrawWithFlags.mono _ _)
   | (with_reducible exact LeO.refl _)
   | (with_reducible exact LeO.none _)
   | (with_reducible refine LeO.ite ?_ ?_)
   | (with_reducible refine LeO.bind ?_ (fun _ => ?_))
   | exact ih0 _ _ _ _ _ _ _ _ _ _ _ _ _ _ _ _ _ _
   | exact spec_DrawSetA.mono _ _
   | exact spec_DrawWithFlags.mono _ _
   | exact LeO.none _
   | refine LeO.ite ?_ ?_
   | refine LeO.bind ?_ (fun _ => ?_)
def laws_FnFlags.T5 : Bool × List (List Nat × List Nat) := (true, [([], []), ([], []), ([], []), ([1, 2], [1, 2]), ([0, 3], [0, 3]), ([4, 3], [4]), ([5], [5]), ([6, 5, 5], [5, 6]), ([5], [5]), ([8, 5], [5, 8]), ([7, 9, 5], [5, 7, 9]), ([5, 10], [5, 10]), ([11, 7], [11]), ([12], [12]), ([12], [12]), ([14, 12, 12], [12, 14]), ([13, 15, 15, 12], [12, 13, 15]), ([12], [12]), ([16, 17, 12], [12, 16, 17]), ([12, 18], [12, 18]), ([19, 16], [19]), ([20], [20]), ([21, 20, 20], [20, 21]), ([20], [20]), ([23, 22, 20], [20, 23]), ([22, 24, 20], [20, 22, 24]), ([20, 25], [20, 25])])
def laws_FnFlags.B5 : List Nat := [0, 0, 0, 6, 15, 31, 63, 127, 63, 319, 1023, 2047, 4095, 8191, 8191, 24575, 65535, 8191, 262143, 524287, 1048575, 2097151, 4194303, 2097151, 16777215, 33554431, 67108863]
theorem laws_FnFlags.tab5 : rtab .any (opsOf Try.f13 5) = laws_FnFlags.T5 := by kernel_rfl
theorem laws_FnFlags.bits5 : waitsOk laws_FnFlags.T5.2 laws_FnFlags.B5 = true := by kernel_rfl
def laws_FnFlags.T8 : Bool × List (List Nat × List Nat) := (true, [([], []), ([], []), ([0, 1], [0, 1]), ([], []), ([], []), ([3, 4, 2], [3, 4]), ([], []), ([], []), ([6, 2, 5, 0, 1, 2, 6, 7], [2, 6]), ([7, 5, 8, 0, 1, 2, 3, 4, 5, 6, 7, 8], [5, 7])])
def laws_FnFlags.B8 : List Nat := [0, 0, 3, 0, 0, 31, 0, 0, 255, 511]
theorem laws_FnFlags.tab8 : rtab .any (opsOf Try.f13 8) = laws_FnFlags.T8 := by kernel_rfl
theorem laws_FnFlags.bits8 : waitsOk laws_FnFlags.T8.2 laws_FnFlags.B8 = true := by kernel_rfl
def laws_FnFlags.T9 : Bool × List (List Nat × List Nat) := (true, [([], []), ([0], [0]), ([], []), ([2], [2]), ([1, 3], [1, 3]), ([4, 3], [4]), ([5], [5]), ([6, 5], [5, 6]), ([5], [5]), ([8, 5, 5], [5, 8]), ([7, 9, 5], [5, 7, 9]), ([5, 10], [5, 10]), ([11, 9], [11]), ([12], [12]), ([13, 12], [12, 13]), ([12], [12]), ([15, 12], [12, 15]), ([14, 16, 12], [12, 14, 16]), ([12, 17], [12, 17]), ([18, 12], [18]), ([19], [19]), ([20, 19], [19, 20]), ([19], [19]), ([22, 19], [19, 22]), ([21, 23, 19], [19, 21, 23]), ([19, 24], [19, 24]), ([25, 19], [25]), ([26], [26]), ([27, 26], [26, 27]), ([26], [26]), ([29, 26], [26, 29]), ([30, 26], [26, 30]), ([28, 31, 26], [26, 28, 31]), ([26, 32], [26, 32]), ([33, 26], [33]), ([34], [34]), ([35, 34], [34, 35]), ([34], [34]), ([37, 34], [34, 37]), ([38, 34], [34, 38]), ([36, 39, 34], [34, 36, 39]), ([34, 40], [34, 40]), ([41, 34], [41]), ([42], [42]), ([43, 42], [42, 43]), ([42], [42]), ([45, 42], [42, 45]), ([44, 46, 42], [42, 44, 46]), ([42, 47], [42, 47]), ([48, 42], [48]), ([49], [49]), ([50, 49], [49, 50]), ([49], [49]), ([52, 49], [49, 52]), ([51, 53, 49], [49, 51, 53]), ([49, 54], [49, 54]), ([55, 49], [55]), ([56], [56]), ([57, 56], [56, 57]), ([56], [56]), ([59, 56], [56, 59]), ([58, 60, 56], [56, 58, 60]), ([56, 61], [56, 61]), ([62, 56, 0, 1, 2, 3, 4, 5, 6, 7, 8, 9, 10, 11, 12, 13, 14, 15, 16, 17, 18, 19, 20, 21, 22, 23, 24, 25, 26, 27, 28, 29, 30, 31, 32, 33, 34, 35, 36, 37, 38, 39, 40, 41, 42, 43, 44, 45, 46, 47, 48, 49, 50, 51, 52, 53, 54, 55, 56, 57, 58, 59, 60, 61, 62], [62])])
def laws_FnFlags.B9 : List Nat := [0, 1, 0, 4, 15, 31, 63, 127, 63, 319, 1023, 2047, 4095, 8191, 16383, 8191, 40959, 131071, 262143, 524287, 1048575, 2097151, 1048575, 5242879, 16777215, 33554431, 67108863, 134217727, 268435455, 134217727, 671088639, 1744830463, 4294967295, 8589934591, 17179869183, 34359738367, 68719476735, 34359738367, 171798691839, 446676598783, 1099511627775, 2199023255551, 4398046511103, 8796093022207, 17592186044415, 8796093022207, 43980465111039, 140737488355327, 281474976710655, 562949953421311, 1125899906842623, 2251799813685247, 1125899906842623, 5629499534213119, 18014398509481983, 36028797018963967, 72057594037927935, 144115188075855871, 288230376151711743, 144115188075855871, 720575940379279359, 2305843009213693951, 4611686018427387903, 9223372036854775807]
theorem laws_FnFlags.tab9 : rtab .any (opsOf Try.f13 9) = laws_FnFlags.T9 := by kernel_rfl
theorem laws_FnFlags.bits9 : waitsOk laws_FnFlags.T9.2 laws_FnFlags.B9 = true := by kernel_rfl
set_option maxHeartbeats 60000000 in
set_option maxRecDepth 100000 in
theorem laws_FnFlags.calls (k : Nat) (A0 : Option Addr) (c0 : Nat) (l0 : List Int) (r : Bool) (w : World) (hr0 : Kd.C (Kd.int .u8) w A0 l0.length l0) (hc0 : l0.length ≤ c0) (h : laws_FnFlags.f k l0 = some r) (hrt : r = true) :
  Calls Try.prog 13 #[.slice A0 l0.length c0] w fun e w' => e = .returned (.bool r) ∧ Below w.heap.size w w' := by
 have hu29 := Try.underlying29
 have HR0 := Aside0.mk hr0
 have HC0 := Aside0.mk hc0
 clear hr0 hc0
 have HB := Aside0.mk (Below.refl w.heap.size w)
 have H : ((laws_big.f l0).bind fun t273 => (if t273 = true then (some true) else ((spec_DrawWithFlags.f k l0).bind fun bt274 => ((impl_WithFlags.f bt274.1 bt274.2.1 bt274.2.2.1 bt274.2.2.2.1 bt274.2.2.2.2.1 bt274.2.2.2.2.2.1 bt274.2.2.2.2.2.2.1 bt274.2.2.2.2.2.2.2.1 bt274.2.2.2.2.2.2.2.2).bind fun bt284 => ((spec_WithFlags.f bt274.1 bt274.2.1 bt274.2.2.1 bt274.2.2.2.1 bt274.2.2.2.2.1 bt274.2.2.2.2.2.1 bt274.2.2.2.2.2.2.1 bt274.2.2.2.2.2.2.2.1 bt274.2.2.2.2.2.2.2.2).bind fun bt293 => (if (!(bt284.1 == bt293.1) || (!(bt284.2.1 == bt293.2.1) || (!(bt284.2.2.1 == bt293.2.2.1) || (!(bt284.2.2.2.1 == bt293.2.2.2.1) || (!(bt284.2.2.2.2.1 == bt293.2.2.2.2.1) || (!(bt284.2.2.2.2.2.1 == bt293.2.2.2.2.2.1) || (!(bt284.2.2.2.2.2.2.1 == bt293.2.2.2.2.2.2.1) || (!(bt284.2.2.2.2.2.2.2 == bt293.2.2.2.2.2.2.2))))))))) = true then (laws_FnFlags.j0 k l0 true bt274.1 bt274.2.1 bt274.2.2.1 bt274.2.2.2.1 bt274.2.2.2.2.1 bt274.2.2.2.2.2.1 bt274.2.2.2.2.2.2.1 bt274.2.2.2.2.2.2.2.1 bt284.1 bt284.2.1 bt284.2.2.1 bt284.2.2.2.1 bt284.2.2.2.2.1 bt284.2.2.2.2.2.1 bt284.2.2.2.2.2.2.1 bt284.2.2.2.2.2.2.2) else ((impl_Flags.f bt284.1 bt284.2.1 bt284.2.2.1 bt284.2.2.2.1 bt284.2.2.2.2.1 bt284.2.2.2.2.2.1 bt284.2.2.2.2.2.2.1 bt284.2.2.2.2.2.2.2).bind fun t301 => (if t301 = (Go.bits .and .i64 bt274.2.2.2.2.2.2.2.2 135) then ((impl_Flags.f bt284.1 bt284.2.1 bt284.2.2.1 bt284.2.2.2.1 bt284.2.2.2.2.1 bt284.2.2.2.2.2.1 bt284.2.2.2.2.2.2.1 bt284.2.2.2.2.2.2.2).bind fun t302 => ((impl_WithFlags.f bt284.1 bt284.2.1 bt284.2.2.1 bt284.2.2.2.1 bt284.2.2.2.2.1 bt284.2.2.2.2.2.1 bt284.2.2.2.2.2.2.1 bt284.2.2.2.2.2.2.2 t302).bind fun bt303 => (if (!(bt303.1 == bt284.1) || (!(bt303.2.1 == bt284.2.1) || (!(bt303.2.2.1 == bt284.2.2.1) || (!(bt303.2.2.2.1 == bt284.2.2.2.1) || (!(bt303.2.2.2.2.1 == bt284.2.2.2.2.1) || (!(bt303.2.2.2.2.2.1 == bt284.2.2.2.2.2.1) || (!(bt303.2.2.2.2.2.2.1 == bt284.2.2.2.2.2.2.1) || (!(bt303.2.2.2.2.2.2.2 == bt284.2.2.2.2.2.2.2))))))))) = true then (laws_FnFlags.j0 k l0 true bt274.1 bt274.2.1 bt274.2.2.1 bt274.2.2.2.1 bt274.2.2.2.2.1 bt274.2.2.2.2.2.1 bt274.2.2.2.2.2.2.1 bt274.2.2.2.2.2.2.2.1 bt284.1 bt284.2.1 bt284.2.2.1 bt284.2.2.2.1 bt284.2.2.2.2.1 bt284.2.2.2.2.2.1 bt284.2.2.2.2.2.2.1 bt284.2.2.2.2.2.2.2) else ((impl_CpuOk.f bt274.1 bt274.2.1 bt274.2.2.1 bt274.2.2.2.1 bt274.2.2.2.2.1 bt274.2.2.2.2.2.1 bt274.2.2.2.2.2.2.1 bt274.2.2.2.2.2.2.2.1).bind fun t311 => ((spec_CpuOk.f bt274.1 bt274.2.1 bt274.2.2.1 bt274.2.2.2.1 bt274.2.2.2.2.1 bt274.2.2.2.2.2.1 bt274.2.2.2.2.2.2.1 bt274.2.2.2.2.2.2.2.1).bind fun t312 => (laws_FnFlags.j0 k l0 (t311 != t312) bt274.1 bt274.2.1 bt274.2.2.1 bt274.2.2.2.1 bt274.2.2.2.2.1 bt274.2.2.2.2.2.1 bt274.2.2.2.2.2.2.1 bt274.2.2.2.2.2.2.2.1 bt284.1 bt284.2.1 bt284.2.2.1 bt284.2.2.2.1 bt284.2.2.2.2.1 bt284.2.2.2.2.2.1 bt284.2.2.2.2.2.2.1 bt284.2.2.2.2.2.2.2)))))) else (laws_FnFlags.j0 k l0 true bt274.1 bt274.2.1 bt274.2.2.1 bt274.2.2.2.1 bt274.2.2.2.2.1 bt274.2.2.2.2.2.1 bt274.2.2.2.2.2.2.1 bt274.2.2.2.2.2.2.2.1 bt284.1 bt284.2.1 bt284.2.2.1 bt284.2.2.2.1 bt284.2.2.2.2.1 bt284.2.2.2.2.2.1 bt284.2.2.2.2.2.2.1 bt284.2.2.2.2.2.2.2))))))))) = some r := h
 clear h
 replace H := Option.bind_eq_some_iff.mp H
 obtain ⟨t273, A20, H⟩ := H
 replace H : (if t273 = true then (some true) else ((spec_DrawWithFlags.f k l0).bind fun bt274 => ((impl_WithFlags.f bt274.1 bt274.2.1 bt274.2.2.1 bt274.2.2.2.1 bt274.2.2.2.2.1 bt274.2.2.2.2.2.1 bt274.2.2.2.2.2.2.1 bt274.2.2.2.2.2.2.2.1 bt274.2.2.2.2.2.2.2.2).bind fun bt284 => ((spec_WithFlags.f bt274.1 bt274.2.1 bt274.2.2.1 bt274.2.2.2.1 bt274.2.2.2.2.1 bt274.2.2.2.2.2.1 bt274.2.2.2.2.2.2.1 bt274.2.2.2.2.2.2.2.1 bt274.2.2.2.2.2.2.2.2).bind fun bt293 => (if (!(bt284.1 == bt293.1) || (!(bt284.2.1 == bt293.2.1) || (!(bt284.2.2.1 == bt293.2.2.1) || (!(bt284.2.2.2.1 == bt293.2.2.2.1) || (!(bt284.2.2.2.2.1 == bt293.2.2.2.2.1) || (!(bt284.2.2.2.2.2.1 == bt293.2.2.2.2.2.1) || (!(bt284.2.2.2.2.2.2.1 == bt293.2.2.2.2.2.2.1) || (!(bt284.2.2.2.2.2.2.2 == bt293.2.2.2.2.2.2.2))))))))) = true then (laws_FnFlags.j0 k l0 true bt274.1 bt274.2.1 bt274.2.2.1 bt274.2.2.2.1 bt274.2.2.2.2.1 bt274.2.2.2.2.2.1 bt274.2.2.2.2.2.2.1 bt274.2.2.2.2.2.2.2.1 bt284.1 bt284.2.1 bt284.2.2.1 bt284.2.2.2.1 bt284.2.2.2.2.1 bt284.2.2.2.2.2.1 bt284.2.2.2.2.2.2.1 bt284.2.2.2.2.2.2.2) else ((impl_Flags.f bt284.1 bt284.2.1 bt284.2.2.1 bt284.2.2.2.1 bt284.2.2.2.2.1 bt284.2.2.2.2.2.1 bt284.2.2.2.2.2.2.1 bt284.2.2.2.2.2.2.2).bind fun t301 => (if t301 = (Go.bits .and .i64 bt274.2.2.2.2.2.2.2.2 135) then ((impl_Flags.f bt284.1 bt284.2.1 bt284.2.2.1 bt284.2.2.2.1 bt284.2.2.2.2.1 bt284.2.2.2.2.2.1 bt284.2.2.2.2.2.2.1 bt284.2.2.2.2.2.2.2).bind fun t302 => ((impl_WithFlags.f bt284.1 bt284.2.1 bt284.2.2.1 bt284.2.2.2.1 bt284.2.2.2.2.1 bt284.2.2.2.2.2.1 bt284.2.2.2.2.2.2.1 bt284.2.2.2.2.2.2.2 t302).bind fun bt303 => (if (!(bt303.1 == bt284.1) || (!(bt303.2.1 == bt284.2.1) || (!(bt303.2.2.1 == bt284.2.2.1) || (!(bt303.2.2.2.1 == bt284.2.2.2.1) || (!(bt303.2.2.2.2.1 == bt284.2.2.2.2.1) || (!(bt303.2.2.2.2.2.1 == bt284.2.2.2.2.2.1) || (!(bt303.2.2.2.2.2.2.1 == bt284.2.2.2.2.2.2.1) || (!(bt303.2.2.2.2.2.2.2 == bt284.2.2.2.2.2.2.2))))))))) = true then (laws_FnFlags.j0 k l0 true bt274.1 bt274.2.1 bt274.2.2.1 bt274.2.2.2.1 bt274.2.2.2.2.1 bt274.2.2.2.2.2.1 bt274.2.2.2.2.2.2.1 bt274.2.2.2.2.2.2.2.1 bt284.1 bt284.2.1 bt284.2.2.1 bt284.2.2.2.1 bt284.2.2.2.2.1 bt284.2.2.2.2.2.1 bt284.2.2.2.2.2.2.1 bt284.2.2.2.2.2.2.2) else ((impl_CpuOk.f bt274.1 bt274.2.1 bt274.2.2.1 bt274.2.2.2.1 bt274.2.2.2.2.1 bt274.2.2.2.2.2.1 bt274.2.2.2.2.2.2.1 bt274.2.2.2.2.2.2.2.1).bind fun t311 => ((spec_CpuOk.f bt274.1 bt274.2.1 bt274.2.2.1 bt274.2.2.2.1 bt274.2.2.2.2.1 bt274.2.2.2.2.2.1 bt274.2.2.2.2.2.2.1 bt274.2.2.2.2.2.2.2.1).bind fun t312 => (laws_FnFlags.j0 k l0 (t311 != t312) bt274.1 bt274.2.1 bt274.2.2.1 bt274.2.2.2.1 bt274.2.2.2.2.1 bt274.2.2.2.2.2.1 bt274.2.2.2.2.2.2.1 bt274.2.2.2.2.2.2.2.1 bt284.1 bt284.2.1 bt284.2.2.1 bt284.2.2.2.1 bt284.2.2.2.2.1 bt284.2.2.2.2.2.1 bt284.2.2.2.2.2.2.1 bt284.2.2.2.2.2.2.2)))))) else (laws_FnFlags.j0 k l0 true bt274.1 bt274.2.1 bt274.2.2.1 bt274.2.2.2.1 bt274.2.2.2.2.1 bt274.2.2.2.2.2.1 bt274.2.2.2.2.2.2.1 bt274.2.2.2.2.2.2.2.1 bt284.1 bt284.2.1 bt284.2.2.1 bt284.2.2.2.1 bt284.2.2.2.2.1 bt284.2.2.2.2.2.1 bt284.2.2.2.2.2.2.1 bt284.2.2.2.2.2.2.2)))))))) = some r := H
 have A2 := Aside0.mk A20
 clear A20
 by_cases c3 : t273 = true
 ·subst c3
  have H1 : (some true) = some r := by rw [if_pos rfl] at H; exact H
  clear H
  have H := H1
  clear H1
  obtain rfl := Option.some.inj H
  go_enter Try.func13, Try.ntmps13
  go_wp2_with (first | ((with_reducible refine gate_callee (f := 42) rfl ?_); refine goesM_ (some 11) rfl rfl Try.func42 #[.slice A0 l0.length c0] ?_; (with_reducible refine (laws_big.calls _ _ l0 true _ ?side1 ?side2 A2.out).mono ?_); (case side1 => exact kc HR0.out); (case side2 => exact HC0.out); rintro e w' ⟨rfl, ⟨nd, rfl⟩⟩; refine ⟨_, rfl, ?_⟩))
  go_ret
  exact ⟨rt, bw HB.out⟩
 ·replace c3 := Bool.eq_false_iff.mpr c3
  subst c3
  have H1 : ((spec_DrawWithFlags.f k l0).bind fun bt274 => ((impl_WithFlags.f bt274.1 bt274.2.1 bt274.2.2.1 bt274.2.2.2.1 bt274.2.2.2.2.1 bt274.2.2.2.2.2.1 bt274.2.2.2.2.2.2.1 bt274.2.2.2.2.2.2.2.1 bt274.2.2.2.2.2.2.2.2).bind fun bt284 => ((spec_WithFlags.f bt274.1 bt274.2.1 bt274.2.2.1 bt274.2.2.2.1 bt274.2.2.2.2.1 bt274.2.2.2.2.2.1 bt274.2.2.2.2.2.2.1 bt274.2.2.2.2.2.2.2.1 bt274.2.2.2.2.2.2.2.2).bind fun bt293 => (if (!(bt284.1 == bt293.1) || (!(bt284.2.1 == bt293.2.1) || (!(bt284.2.2.1 == bt293.2.2.1) || (!(bt284.2.2.2.1 == bt293.2.2.2.1) || (!(bt284.2.2.2.2.1 == bt293.2.2.2.2.1) || (!(bt284.2.2.2.2.2.1 == bt293.2.2.2.2.2.1) || (!(bt284.2.2.2.2.2.2.1 == bt293.2.2.2.2.2.2.1) || (!(bt284.2.2.2.2.2.2.2 == bt293.2.2.2.2.2.2.2))))))))) = true then (laws_FnFlags.j0 k l0 true bt274.1 bt274.2.1 bt274.2.2.1 bt274.2.2.2.1 bt274.2.2.2.2.1 bt274.2.2.2.2.2.1 bt274.2.2.2.2.2.2.1 bt274.2.2.2.2.2.2.2.1 bt284.1 bt284.2.1 bt284.2.2.1 bt284.2.2.2.1 bt284.2.2.2.2.1 bt284.2.2.2.2.2.1 bt284.2.2.2.2.2.2.1 bt284.2.2.2.2.2.2.2) else ((impl_Flags.f bt284.1 bt284.2.1 bt284.2.2.1 bt284.2.2.2.1 bt284.2.2.2.2.1 bt284.2.2.2.2.2.1 bt284.2.2.2.2.2.2.1 bt284.2.2.2.2.2.2.2).bind fun t301 => (if t301 = (Go.bits .and .i64 bt274.2.2.2.2.2.2.2.2 135) then ((impl_Flags.f bt284.1 bt284.2.1 bt284.2.2.1 bt284.2.2.2.1 bt284.2.2.2.2.1 bt284.2.2.2.2.2.1 bt284.2.2.2.2.2.2.1 bt284.2.2.2.2.2.2.2).bind fun t302 => ((impl_WithFlags.f bt284.1 bt284.2.1 bt284.2.2.1 bt284.2.2.2.1 bt284.2.2.2.2.1 bt284.2.2.2.2.2.1 bt284.2.2.2.2.2.2.1 bt284.2.2.2.2.2.2.2 t302).bind fun bt303 => (if (!(bt303.1 == bt284.1) || (!(bt303.2.1 == bt284.2.1) || (!(bt303.2.2.1 == bt284.2.2.1) || (!(bt303.2.2.2.1 == bt284.2.2.2.1) || (!(bt303.2.2.2.2.1 == bt284.2.2.2.2.1) || (!(bt303.2.2.2.2.2.1 == bt284.2.2.2.2.2.1) || (!(bt303.2.2.2.2.2.2.1 == bt284.2.2.2.2.2.2.1) || (!(bt303.2.2.2.2.2.2.2 == bt284.2.2.2.2.2.2.2))))))))) = true then (laws_FnFlags.j0 k l0 true bt274.1 bt274.2.1 bt274.2.2.1 bt274.2.2.2.1 bt274.2.2.2.2.1 bt274.2.2.2.2.2.1 bt274.2.2.2.2.2.2.1 bt274.2.2.2.2.2.2.2.1 bt284.1 bt284.2.1 bt284.2.2.1 bt284.2.2.2.1 bt284.2.2.2.2.1 bt284.2.2.2.2.2.1 bt284.2.2.2.2.2.2.1 bt284.2.2.2.2.2.2.2) else ((impl_CpuOk.f bt274.1 bt274.2.1 bt274.2.2.1 bt274.2.2.2.1 bt274.2.2.2.2.1 bt274.2.2.2.2.2.1 bt274.2.2.2.2.2.2.1 bt274.2.2.2.2.2.2.2.1).bind fun t311 => ((spec_CpuOk.f bt274.1 bt274.2.1 bt274.2.2.1 bt274.2.2.2.1 bt274.2.2.2.2.1 bt274.2.2.2.2.2.1 bt274.2.2.2.2.2.2.1 bt274.2.2.2.2.2.2.2.1).bind fun t312 => (laws_FnFlags.j0 k l0 (t311 != t312) bt274.1 bt274.2.1 bt274.2.2.1 bt274.2.2.2.1 bt274.2.2.2.2.1 bt274.2.2.2.2.2.1 bt274.2.2.2.2.2.2.1 bt274.2.2.2.2.2.2.2.1 bt284.1 bt284.2.1 bt284.2.2.1 bt284.2.2.2.1 bt284.2.2.2.2.1 bt284.2.2.2.2.2.1 bt284.2.2.2.2.2.2.1 bt284.2.2.2.2.2.2.2)))))) else (laws_FnFlags.j0 k l0 true bt274.1 bt274.2.1 bt274.2.2.1 bt274.2.2.2.1 bt274.2.2.2.2.1 bt274.2.2.2.2.2.1 bt274.2.2.2.2.2.2.1 bt274.2.2.2.2.2.2.2.1 bt284.1 bt284.2.1 bt284.2.2.1 bt284.2.2.2.1 bt284.2.2.2.2.1 bt284.2.2.2.2.2.1 bt284.2.2.2.2.2.2.1 bt284.2.2.2.2.2.2.2))))))) = some r := by rw [if_neg (show ¬ (false = true) by decide)] at H; exact H
  clear H
  have H := H1
  clear H1
  replace H := Option.bind_eq_some_iff.mp H
  obtain ⟨⟨t274, t275, t276, t277, t278, t279, t280, t281, t282⟩, A40, H⟩ := H
  replace H : ((impl_WithFlags.f t274 t275 t276 t277 t278 t279 t280 t281 t282).bind fun bt284 => ((spec_WithFlags.f t274 t275 t276 t277 t278 t279 t280 t281 t282).bind fun bt293 => (if (!(bt284.1 == bt293.1) || (!(bt284.2.1 == bt293.2.1) || (!(bt284.2.2.1 == bt293.2.2.1) || (!(bt284.2.2.2.1 == bt293.2.2.2.1) || (!(bt284.2.2.2.2.1 == bt293.2.2.2.2.1) || (!(bt284.2.2.2.2.2.1 == bt293.2.2.2.2.2.1) || (!(bt284.2.2.2.2.2.2.1 == bt293.2.2.2.2.2.2.1) || (!(bt284.2.2.2.2.2.2.2 == bt293.2.2.2.2.2.2.2))))))))) = true then (laws_FnFlags.j0 k l0 true t274 t275 t276 t277 t278 t279 t280 t281 bt284.1 bt284.2.1 bt284.2.2.1 bt284.2.2.2.1 bt284.2.2.2.2.1 bt284.2.2.2.2.2.1 bt284.2.2.2.2.2.2.1 bt284.2.2.2.2.2.2.2) else ((impl_Flags.f bt284.1 bt284.2.1 bt284.2.2.1 bt284.2.2.2.1 bt284.2.2.2.2.1 bt284.2.2.2.2.2.1 bt284.2.2.2.2.2.2.1 bt284.2.2.2.2.2.2.2).bind fun t301 => (if t301 = (Go.bits .and .i64 t282 135) then ((impl_Flags.f bt284.1 bt284.2.1 bt284.2.2.1 bt284.2.2.2.1 bt284.2.2.2.2.1 bt284.2.2.2.2.2.1 bt284.2.2.2.2.2.2.1 bt284.2.2.2.2.2.2.2).bind fun t302 => ((impl_WithFlags.f bt284.1 bt284.2.1 bt284.2.2.1 bt284.2.2.2.1 bt284.2.2.2.2.1 bt284.2.2.2.2.2.1 bt284.2.2.2.2.2.2.1 bt284.2.2.2.2.2.2.2 t302).bind fun bt303 => (if (!(bt303.1 == bt284.1) || (!(bt303.2.1 == bt284.2.1) || (!(bt303.2.2.1 == bt284.2.2.1) || (!(bt303.2.2.2.1 == bt284.2.2.2.1) || (!(bt303.2.2.2.2.1 == bt284.2.2.2.2.1) || (!(bt303.2.2.2.2.2.1 == bt284.2.2.2.2.2.1) || (!(bt303.2.2.2.2.2.2.1 == bt284.2.2.2.2.2.2.1) || (!(bt303.2.2.2.2.2.2.2 == bt284.2.2.2.2.2.2.2))))))))) = true then (laws_FnFlags.j0 k l0 true t274 t275 t276 t277 t278 t279 t280 t281 bt284.1 bt284.2.1 bt284.2.2.1 bt284.2.2.2.1 bt284.2.2.2.2.1 bt284.2.2.2.2.2.1 bt284.2.2.2.2.2.2.1 bt284.2.2.2.2.2.2.2) else ((impl_CpuOk.f t274 t275 t276 t277 t278 t279 t280 t281).bind fun t311 => ((spec_CpuOk.f t274 t275 t276 t277 t278 t279 t280 t281).bind fun t312 => (laws_FnFlags.j0 k l0 (t311 != t312) t274 t275 t276 t277 t278 t279 t280 t281 bt284.1 bt284.2.1 bt284.2.2.1 bt284.2.2.2.1 bt284.2.2.2.2.1 bt284.2.2.2.2.2.1 bt284.2.2.2.2.2.2.1 bt284.2.2.2.2.2.2.2)))))) else (laws_FnFlags.j0 k l0 true t274 t275 t276 t277 t278 t279 t280 t281 bt284.1 bt284.2.1 bt284.2.2.1 bt284.2.2.2.1 bt284.2.2.2.2.1 bt284.2.2.2.2.2.1 bt284.2.2.2.2.2.2.1 bt284.2.2.2.2.2.2.2)))))) = some r := H
  have A4 := Aside0.mk A40
  clear A40
  replace H := Option.bind_eq_some_iff.mp H
  obtain ⟨⟨t284, t285, t286, t287, t288, t289, t290, t291⟩, A50, H⟩ := H
  replace H : ((spec_WithFlags.f t274 t275 t276 t277 t278 t279 t280 t281 t282).bind fun bt293 => (if (!(t284 == bt293.1) || (!(t285 == bt293.2.1) || (!(t286 == bt293.2.2.1) || (!(t287 == bt293.2.2.2.1) || (!(t288 == bt293.2.2.2.2.1) || (!(t289 == bt293.2.2.2.2.2.1) || (!(t290 == bt293.2.2.2.2.2.2.1) || (!(t291 == bt293.2.2.2.2.2.2.2))))))))) = true then (laws_FnFlags.j0 k l0 true t274 t275 t276 t277 t278 t279 t280 t281 t284 t285 t286 t287 t288 t289 t290 t291) else ((impl_Flags.f t284 t285 t286 t287 t288 t289 t290 t291).bind fun t301 => (if t301 = (Go.bits .and .i64 t282 135) then ((impl_Flags.f t284 t285 t286 t287 t288 t289 t290 t291).bind fun t302 => ((impl_WithFlags.f t284 t285 t286 t287 t288 t289 t290 t291 t302).bind fun bt303 => (if (!(bt303.1 == t284) || (!(bt303.2.1 == t285) || (!(bt303.2.2.1 == t286) || (!(bt303.2.2.2.1 == t287) || (!(bt303.2.2.2.2.1 == t288) || (!(bt303.2.2.2.2.2.1 == t289) || (!(bt303.2.2.2.2.2.2.1 == t290) || (!(bt303.2.2.2.2.2.2.2 == t291))))))))) = true then (laws_FnFlags.j0 k l0 true t274 t275 t276 t277 t278 t279 t280 t281 t284 t285 t286 t287 t288 t289 t290 t291) else ((impl_CpuOk.f t274 t275 t276 t277 t278 t279 t280 t281).bind fun t311 => ((spec_CpuOk.f t274 t275 t276 t277 t278 t279 t280 t281).bind fun t312 => (laws_FnFlags.j0 k l0 (t311 != t312) t274 t275 t276 t277 t278 t279 t280 t281 t284 t285 t286 t287 t288 t289 t290 t291)))))) else (laws_FnFlags.j0 k l0 true t274 t275 t276 t277 t278 t279 t280 t281 t284 t285 t286 t287 t288 t289 t290 t291))))) = some r := H
  have A5 := Aside0.mk A50
  clear A50
  have HC6 := Aside0.mk H
  clear H
  go_enter Try.func13, Try.ntmps13
  go_upto_region 5 with (first | ((with_reducible refine gate_callee (f := 42) rfl ?_); refine goesM_ (some 11) rfl rfl Try.func42 #[.slice A0 l0.length c0] ?_; (with_reducible refine (laws_big.calls _ _ l0 false _ ?side1 ?side2 A2.out).mono ?_); (case side1 => exact kc HR0.out); (case side2 => exact HC0.out); rintro e w' ⟨rfl, ⟨nd, rfl⟩⟩; refine ⟨_, rfl, ?_⟩) | ((with_reducible refine gate_callee (f := 55) rfl ?_); refine goesM_ (some 14) rfl rfl Try.func55 #[.slice A0 l0.length c0] ?_; (with_reducible refine (spec_DrawWithFlags.calls k _ _ l0 t274 t275 t276 t277 t278 t279 t280 t281 t282 _ ?side1 ?side2 A4.out).mono ?_); (case side1 => exact kc HR0.out); (case side2 => exact HC0.out); rintro e w7 ⟨rfl, hb⟩; refine ⟨_, rfl, ?_⟩; have n0_ := Aside0.mk (below_step (bw HB.out) hb); clear HB; have HB := n0_; clear n0_; (try clear hb); (try clear hb2); (try clear hk); (try clear hi)) | ((with_reducible refine gate_dst (N := 3) rfl ?_); refine bx (N := 3) (cs := #[.int .i64 0, .int .i64 0, .int .i64 0, .int .i64 0, .bool false, .bool false, .bool false, .bool false]) (t := 29) ?_; intro gb283 hg w8 hbox hb; have n0_ := Aside0.mk (below_step (bw HB.out) hb); have n1_ := Aside0.mk (hbox); have n2_ := Aside0.mk ((gs hg (bw HB.out))); have n3_ := Aside0.mk ((gs hg (bw HB.out))); clear HB; have HB := n0_; have BK283 := n1_; have GW283 := n2_; have GE283 := n3_; clear n0_ n1_ n2_ n3_; clear hb hbox hg; have hcz9_0 : w8.cell? ⟨gb283, 0, none⟩ = some (.int .i64 0) := cl BK283 0; have hcz9_1 : w8.cell? ⟨gb283, 1, none⟩ = some (.int .i64 0) := cl BK283 1; have hcz9_2 : w8.cell? ⟨gb283, 2, none⟩ = some (.int .i64 0) := cl BK283 2; have hcz9_3 : w8.cell? ⟨gb283, 3, none⟩ = some (.int .i64 0) := cl BK283 3; have hcz9_4 : w8.cell? ⟨gb283, 4, none⟩ = some (.bool false) := cl BK283 4; have hcz9_5 : w8.cell? ⟨gb283, 5, none⟩ = some (.bool false) := cl BK283 5; have hcz9_6 : w8.cell? ⟨gb283, 6, none⟩ = some (.bool false) := cl BK283 6; have hcz9_7 : w8.cell? ⟨gb283, 7, none⟩ = some (.bool false) := cl BK283 7; have hfz9_0 := blk_frozen BK283.out 0; have hfz9_1 := blk_frozen BK283.out 1; have hfz9_2 := blk_frozen BK283.out 2; have hfz9_3 := blk_frozen BK283.out 3; have hfz9_4 := blk_frozen BK283.out 4; have hfz9_5 := blk_frozen BK283.out 5; have hfz9_6 := blk_frozen BK283.out 6; have hfz9_7 := blk_frozen BK283.out 7) | ((with_reducible refine gate_callee (f := 28) rfl ?_); refine goesM_ (some 19) rfl rfl Try.func28 #[.agg #[.int .i64 t274, .int .i64 t275, .int .i64 t276, .int .i64 t277, .bool t278, .bool t279, .bool t280, .bool t281], .int .i64 t282] ?_; (with_reducible refine (impl_WithFlags.calls t274 t275 t276 t277 t278 t279 t280 t281 t282 t284 t285 t286 t287 t288 t289 t290 t291 _ A5.out).mono ?_); rintro e w10 ⟨rfl, hb⟩; refine ⟨_, rfl, ?_⟩; have n0_ := Aside0.mk (blk_below (g := gb283) (o := .cells #[.int .i64 t274, .int .i64 t275, .int .i64 t276, .int .i64 t277, .bool t278, .bool t279, .bool t280, .bool t281] 29 (0, 0)) (by (with_reducible repeat (first | refine blk_drewN ?_ _ | refine blk_drew ?_ | refine blk_alloc ?_ _)); refine blk_put (cs := #[.int .i64 t274, .int .i64 t275, .int .i64 t276, .int .i64 t277, .bool t278, .bool t279, .bool t280, .bool false]) ?_ 7 _ rfl; (with_reducible repeat (first | refine blk_drewN ?_ _ | refine blk_drew ?_ | refine blk_alloc ?_ _)); refine blk_put (cs := #[.int .i64 t274, .int .i64 t275, .int .i64 t276, .int .i64 t277, .bool t278, .bool t279, .bool false, .bool false]) ?_ 6 _ rfl; (with_reducible repeat (first | refine blk_drewN ?_ _ | refine blk_drew ?_ | refine blk_alloc ?_ _)); refine blk_put (cs := #[.int .i64 t274, .int .i64 t275, .int .i64 t276, .int .i64 t277, .bool t278, .bool false, .bool false, .bool false]) ?_ 5 _ rfl; (with_reducible repeat (first | refine blk_drewN ?_ _ | refine blk_drew ?_ | refine blk_alloc ?_ _)); refine blk_put (cs := #[.int .i64 t274, .int .i64 t275, .int .i64 t276, .int .i64 t277, .bool false, .bool false, .bool false, .bool false]) ?_ 4 _ rfl; (with_reducible repeat (first | refine blk_drewN ?_ _ | refine blk_drew ?_ | refine blk_alloc ?_ _)); refine blk_put (cs := #[.int .i64 t274, .int .i64 t275, .int .i64 t276, .int .i64 0, .bool false, .bool false, .bool false, .bool false]) ?_ 3 _ rfl; (with_reducible repeat (first | refine blk_drewN ?_ _ | refine blk_drew ?_ | refine blk_alloc ?_ _)); refine blk_put (cs := #[.int .i64 t274, .int .i64 t275, .int .i64 0, .int .i64 0, .bool false, .bool false, .bool false, .bool false]) ?_ 2 _ rfl; (with_reducible repeat (first | refine blk_drewN ?_ _ | refine blk_drew ?_ | refine blk_alloc ?_ _)); refine blk_put (cs := #[.int .i64 t274, .int .i64 0, .int .i64 0, .int .i64 0, .bool false, .bool false, .bool false, .bool false]) ?_ 1 _ rfl; (with_reducible repeat (first | refine blk_drewN ?_ _ | refine blk_drew ?_ | refine blk_alloc ?_ _)); refine blk_put (cs := #[.int .i64 0, .int .i64 0, .int .i64 0, .int .i64 0, .bool false, .bool false, .bool false, .bool false]) ?_ 0 _ rfl; (with_reducible repeat (first | refine blk_drewN ?_ _ | refine blk_drew ?_ | refine blk_alloc ?_ _)); exact BK283.out) hb); have n1_ := Aside0.mk (below_step (bw HB.out) hb); clear BK283; clear HB; have BK283 := n0_; have HB := n1_; clear n0_ n1_; (try clear hb); (try clear hb2); (try clear hk); (try clear hi)) | ((with_reducible refine gate_dst (N := 5) rfl ?_); refine bx (N := 5) (cs := #[.int .i64 0, .int .i64 0, .int .i64 0, .int .i64 0, .bool false, .bool false, .bool false, .bool false]) (t := 29) ?_; intro gb292 hg w11 hbox hb; have n0_ := Aside0.mk (blk_below (g := gb283) (o := .cells #[.int .i64 t274, .int .i64 t275, .int .i64 t276, .int .i64 t277, .bool t278, .bool t279, .bool t280, .bool t281] 29 (0, 0)) (kb BK283.out) hb); have n1_ := Aside0.mk (below_step (bw HB.out) hb); have n2_ := Aside0.mk (hbox); have n3_ := Aside0.mk ((gs hg (bw HB.out))); have n4_ := Aside0.mk ((gs hg (bw HB.out))); have n5_ := Aside0.mk ((ga hg BK283.out)); have n6_ := Aside0.mk ((gc hg BK283.out)); clear BK283; clear HB; have BK283 := n0_; have HB := n1_; have BK292 := n2_; have GW292 := n3_; have GE292 := n4_; have NB283_292 := n5_; have NB292_283 := n6_; clear n0_ n1_ n2_ n3_ n4_ n5_ n6_; clear hb hbox hg; have hnb12 := NB292_283.out; have hnc12 := NB283_292.out; have hcz13_0 : w11.cell? ⟨gb292, 0, none⟩ = some (.int .i64 0) := cl BK292 0; have hcz13_1 : w11.cell? ⟨gb292, 1, none⟩ = some (.int .i64 0) := cl BK292 1; have hcz13_2 : w11.cell? ⟨gb292, 2, none⟩ = some (.int .i64 0) := cl BK292 2; have hcz13_3 : w11.cell? ⟨gb292, 3, none⟩ = some (.int .i64 0) := cl BK292 3; have hcz13_4 : w11.cell? ⟨gb292, 4, none⟩ = some (.bool false) := cl BK292 4; have hcz13_5 : w11.cell? ⟨gb292, 5, none⟩ = some (.bool false) := cl BK292 5; have hcz13_6 : w11.cell? ⟨gb292, 6, none⟩ = some (.bool false) := cl BK292 6; have hcz13_7 : w11.cell? ⟨gb292, 7, none⟩ = some (.bool false) := cl BK292 7; have hfz13_0 := blk_frozen BK292.out 0; have hfz13_1 := blk_frozen BK292.out 1; have hfz13_2 := blk_frozen BK292.out 2; have hfz13_3 := blk_frozen BK292.out 3; have hfz13_4 := blk_frozen BK292.out 4; have hfz13_5 := blk_frozen BK292.out 5; have hfz13_6 := blk_frozen BK292.out 6; have hfz13_7 := blk_frozen BK292.out 7))
  (try simp only [Act.put, List.setIfInBounds_toArray, List.set_cons_zero, List.set_cons_succ])
  go_cut [46] (fun v46 wc => ∃ (kq : Nat) (x46_5 : Bool), v46 = .bool x46_5 ∧ Aside0 (laws_FnFlags.j0 kq l0 x46_5 t274 t275 t276 t277 t278 t279 t280 t281 t284 t285 t286 t287 t288 t289 t290 t291 = some r) ∧ Aside0 (kq ≤ k) ∧ Aside0 (wc.heap[gb283]? = some (.cells #[.int .i64 t274, .int .i64 t275, .int .i64 t276, .int .i64 t277, .bool t278, .bool t279, .bool t280, .bool t281] 29 (0, 0))) ∧ Aside0 (wc.heap[gb292]? = some (.cells #[.int .i64 t284, .int .i64 t285, .int .i64 t286, .int .i64 t287, .bool t288, .bool t289, .bool t290, .bool t291] 29 (0, 0))) ∧ Aside0 (Below w.heap.size w wc))
  case first =>
   have H := HC6.out
   clear HC6
   replace H := Option.bind_eq_some_iff.mp H
   obtain ⟨⟨t293, t294, t295, t296, t297, t298, t299, t300⟩, A140, H⟩ := H
   replace H : (if (!(t284 == t293) || (!(t285 == t294) || (!(t286 == t295) || (!(t287 == t296) || (!(t288 == t297) || (!(t289 == t298) || (!(t290 == t299) || (!(t291 == t300))))))))) = true then (laws_FnFlags.j0 k l0 true t274 t275 t276 t277 t278 t279 t280 t281 t284 t285 t286 t287 t288 t289 t290 t291) else ((impl_Flags.f t284 t285 t286 t287 t288 t289 t290 t291).bind fun t301 => (if t301 = (Go.bits .and .i64 t282 135) then ((impl_Flags.f t284 t285 t286 t287 t288 t289 t290 t291).bind fun t302 => ((impl_WithFlags.f t284 t285 t286 t287 t288 t289 t290 t291 t302).bind fun bt303 => (if (!(bt303.1 == t284) || (!(bt303.2.1 == t285) || (!(bt303.2.2.1 == t286) || (!(bt303.2.2.2.1 == t287) || (!(bt303.2.2.2.2.1 == t288) || (!(bt303.2.2.2.2.2.1 == t289) || (!(bt303.2.2.2.2.2.2.1 == t290) || (!(bt303.2.2.2.2.2.2.2 == t291))))))))) = true then (laws_FnFlags.j0 k l0 true t274 t275 t276 t277 t278 t279 t280 t281 t284 t285 t286 t287 t288 t289 t290 t291) else ((impl_CpuOk.f t274 t275 t276 t277 t278 t279 t280 t281).bind fun t311 => ((spec_CpuOk.f t274 t275 t276 t277 t278 t279 t280 t281).bind fun t312 => (laws_FnFlags.j0 k l0 (t311 != t312) t274 t275 t276 t277 t278 t279 t280 t281 t284 t285 t286 t287 t288 t289 t290 t291)))))) else (laws_FnFlags.j0 k l0 true t274 t275 t276 t277 t278 t279 t280 t281 t284 t285 t286 t287 t288 t289 t290 t291)))) = some r := H
   have A14 := Aside0.mk A140
   clear A140
   by_cases c15 : (!(t284 == t293) || (!(t285 == t294) || (!(t286 == t295) || (!(t287 == t296) || (!(t288 == t297) || (!(t289 == t298) || (!(t290 == t299) || (!(t291 == t300))))))))) = true
   ·rw [if_pos c15] at H
    have c15b0 : (!(t284 == t293) || (!(t285 == t294) || (!(t286 == t295) || (!(t287 == t296) || (!(t288 == t297) || (!(t289 == t298) || (!(t290 == t299) || (!(t291 == t300))))))))) = true := c15
    clear c15
    (first | rw [c15b0] | (simp only [i64_w, i32_w]; rw [c15b0]) | skip)
    exact absurd (show r = false by first | (cases k with | zero => (simp [laws_FnFlags.j0] at H; done) | succ k_ => (simp [laws_FnFlags.j0] at H; (first | exact H | exact H.symm))) | (cases kj5 with | zero => (simp [laws_FnFlags.j0] at H; done) | succ k_ => (simp [laws_FnFlags.j0] at H; (first | exact H | exact H.symm)))) (by rw [hrt]; decide)
   ·rw [if_neg c15] at H
    have c15b0 : (!(t284 == t293) || (!(t285 == t294) || (!(t286 == t295) || (!(t287 == t296) || (!(t288 == t297) || (!(t289 == t298) || (!(t290 == t299) || (!(t291 == t300))))))))) = false := by simpa using c15
    have q_ : t284 = t293 ∧ t285 = t294 ∧ t286 = t295 ∧ t287 = t296 ∧ t288 = t297 ∧ t289 = t298 ∧ t290 = t299 ∧ t291 = t300 := by simpa using c15b0
    clear c15b0
    obtain ⟨rfl, rfl, rfl, rfl, rfl, rfl, rfl, rfl⟩ := q_
    clear c15
    skip
    replace H := Option.bind_eq_some_iff.mp H
    obtain ⟨t301, A190, H⟩ := H
    replace H : (if t301 = (Go.bits .and .i64 t282 135) then ((impl_Flags.f t284 t285 t286 t287 t288 t289 t290 t291).bind fun t302 => ((impl_WithFlags.f t284 t285 t286 t287 t288 t289 t290 t291 t302).bind fun bt303 => (if (!(bt303.1 == t284) || (!(bt303.2.1 == t285) || (!(bt303.2.2.1 == t286) || (!(bt303.2.2.2.1 == t287) || (!(bt303.2.2.2.2.1 == t288) || (!(bt303.2.2.2.2.2.1 == t289) || (!(bt303.2.2.2.2.2.2.1 == t290) || (!(bt303.2.2.2.2.2.2.2 == t291))))))))) = true then (laws_FnFlags.j0 k l0 true t274 t275 t276 t277 t278 t279 t280 t281 t284 t285 t286 t287 t288 t289 t290 t291) else ((impl_CpuOk.f t274 t275 t276 t277 t278 t279 t280 t281).bind fun t311 => ((spec_CpuOk.f t274 t275 t276 t277 t278 t279 t280 t281).bind fun t312 => (laws_FnFlags.j0 k l0 (t311 != t312) t274 t275 t276 t277 t278 t279 t280 t281 t284 t285 t286 t287 t288 t289 t290 t291)))))) else (laws_FnFlags.j0 k l0 true t274 t275 t276 t277 t278 t279 t280 t281 t284 t285 t286 t287 t288 t289 t290 t291)) = some r := H
    have A19 := Aside0.mk A190
    clear A190
    by_cases c20 : t301 = (Go.bits .and .i64 t282 135)
    ·rw [if_pos c20] at H
     have c20b0 : (t301 == (Go.bits .and .i64 t282 135)) = true := beq_iff_eq.mpr c20
     have c20b1 : (t301 != (Go.bits .and .i64 t282 135)) = false := bne_eq_false_iff_eq.mpr c20
     clear c20
     replace H := Option.bind_eq_some_iff.mp H
     obtain ⟨t302, A210, H⟩ := H
     have e_ := Option.some.inj (A19.out.symm.trans A210)
     subst e_
     replace H : ((impl_WithFlags.f t284 t285 t286 t287 t288 t289 t290 t291 t301).bind fun bt303 => (if (!(bt303.1 == t284) || (!(bt303.2.1 == t285) || (!(bt303.2.2.1 == t286) || (!(bt303.2.2.2.1 == t287) || (!(bt303.2.2.2.2.1 == t288) || (!(bt303.2.2.2.2.2.1 == t289) || (!(bt303.2.2.2.2.2.2.1 == t290) || (!(bt303.2.2.2.2.2.2.2 == t291))))))))) = true then (laws_FnFlags.j0 k l0 true t274 t275 t276 t277 t278 t279 t280 t281 t284 t285 t286 t287 t288 t289 t290 t291) else ((impl_CpuOk.f t274 t275 t276 t277 t278 t279 t280 t281).bind fun t311 => ((spec_CpuOk.f t274 t275 t276 t277 t278 t279 t280 t281).bind fun t312 => (laws_FnFlags.j0 k l0 (t311 != t312) t274 t275 t276 t277 t278 t279 t280 t281 t284 t285 t286 t287 t288 t289 t290 t291))))) = some r := H
     have A21 := Aside0.mk A210
     clear A210
     replace H := Option.bind_eq_some_iff.mp H
     obtain ⟨⟨t303, t304, t305, t306, t307, t308, t309, t310⟩, A220, H⟩ := H
     replace H : (if (!(t303 == t284) || (!(t304 == t285) || (!(t305 == t286) || (!(t306 == t287) || (!(t307 == t288) || (!(t308 == t289) || (!(t309 == t290) || (!(t310 == t291))))))))) = true then (laws_FnFlags.j0 k l0 true t274 t275 t276 t277 t278 t279 t280 t281 t284 t285 t286 t287 t288 t289 t290 t291) else ((impl_CpuOk.f t274 t275 t276 t277 t278 t279 t280 t281).bind fun t311 => ((spec_CpuOk.f t274 t275 t276 t277 t278 t279 t280 t281).bind fun t312 => (laws_FnFlags.j0 k l0 (t311 != t312) t274 t275 t276 t277 t278 t279 t280 t281 t284 t285 t286 t287 t288 t289 t290 t291)))) = some r := H
     have A22 := Aside0.mk A220
     clear A220
     by_cases c23 : (!(t303 == t284) || (!(t304 == t285) || (!(t305 == t286) || (!(t306 == t287) || (!(t307 == t288) || (!(t308 == t289) || (!(t309 == t290) || (!(t310 == t291))))))))) = true
     ·rw [if_pos c23] at H
      have c23b0 : (!(t303 == t284) || (!(t304 == t285) || (!(t305 == t286) || (!(t306 == t287) || (!(t307 == t288) || (!(t308 == t289) || (!(t309 == t290) || (!(t310 == t291))))))))) = true := c23
      clear c23
      exact absurd (show r = false by first | (cases k with | zero => (simp [laws_FnFlags.j0] at H; done) | succ k_ => (simp [laws_FnFlags.j0] at H; (first | exact H | exact H.symm))) | (cases kj5 with | zero => (simp [laws_FnFlags.j0] at H; done) | succ k_ => (simp [laws_FnFlags.j0] at H; (first | exact H | exact H.symm)))) (by rw [hrt]; decide)
     ·rw [if_neg c23] at H
      have c23b0 : (!(t303 == t284) || (!(t304 == t285) || (!(t305 == t286) || (!(t306 == t287) || (!(t307 == t288) || (!(t308 == t289) || (!(t309 == t290) || (!(t310 == t291))))))))) = false := by simpa using c23
      have q_ : t303 = t284 ∧ t304 = t285 ∧ t305 = t286 ∧ t306 = t287 ∧ t307 = t288 ∧ t308 = t289 ∧ t309 = t290 ∧ t310 = t291 := by simpa using c23b0
      clear c23b0
      obtain ⟨rfl, rfl, rfl, rfl, rfl, rfl, rfl, rfl⟩ := q_
      clear c23
      replace H := Option.bind_eq_some_iff.mp H
      obtain ⟨t311, A300, H⟩ := H
      replace H : ((spec_CpuOk.f t274 t275 t276 t277 t278 t279 t280 t281).bind fun t312 => (laws_FnFlags.j0 k l0 (t311 != t312) t274 t275 t276 t277 t278 t279 t280 t281 t303 t304 t305 t306 t307 t308 t309 t310)) = some r := H
      have A30 := Aside0.mk A300
      clear A300
      replace H := Option.bind_eq_some_iff.mp H
      obtain ⟨t312, A310, H⟩ := H
      replace H : (laws_FnFlags.j0 k l0 (t311 != t312) t274 t275 t276 t277 t278 t279 t280 t281 t303 t304 t305 t306 t307 t308 t309 t310) = some r := H
      have A31 := Aside0.mk A310
      clear A310
      have H' := Aside0.mk H
      clear H
      try go_wp2
      have n0_ : Aside0 (((((((((w11.setCell ⟨gb292, 0, none⟩ (.int .i64 t303)).setCell ⟨gb292, 1, none⟩ (.int .i64 t304)).setCell ⟨gb292, 2, none⟩ (.int .i64 t305)).setCell ⟨gb292, 3, none⟩ (.int .i64 t306)).setCell ⟨gb292, 4, none⟩ (.bool t307)).setCell ⟨gb292, 5, none⟩ (.bool t308)).setCell ⟨gb292, 6, none⟩ (.bool t309)).setCell ⟨gb292, 7, none⟩ (.bool t310)).heap[gb283]? = some (.cells #[.int .i64 t274, .int .i64 t275, .int .i64 t276, .int .i64 t277, .bool t278, .bool t279, .bool t280, .bool t281] 29 (0, 0))) := ⟨kf BK283.out⟩
      have n1_ : Aside0 (((((((((w11.setCell ⟨gb292, 0, none⟩ (.int .i64 t303)).setCell ⟨gb292, 1, none⟩ (.int .i64 t304)).setCell ⟨gb292, 2, none⟩ (.int .i64 t305)).setCell ⟨gb292, 3, none⟩ (.int .i64 t306)).setCell ⟨gb292, 4, none⟩ (.bool t307)).setCell ⟨gb292, 5, none⟩ (.bool t308)).setCell ⟨gb292, 6, none⟩ (.bool t309)).setCell ⟨gb292, 7, none⟩ (.bool t310)).heap[gb292]? = some (.cells #[.int .i64 t303, .int .i64 t304, .int .i64 t305, .int .i64 t306, .bool t307, .bool t308, .bool t309, .bool t310] 29 (0, 0))) := ⟨by (with_reducible repeat (first | refine blk_drewN ?_ _ | refine blk_drew ?_ | refine blk_alloc ?_ _)); refine blk_put (cs := #[.int .i64 t303, .int .i64 t304, .int .i64 t305, .int .i64 t306, .bool t307, .bool t308, .bool t309, .bool false]) ?_ 7 _ rfl; (with_reducible repeat (first | refine blk_drewN ?_ _ | refine blk_drew ?_ | refine blk_alloc ?_ _)); refine blk_put (cs := #[.int .i64 t303, .int .i64 t304, .int .i64 t305, .int .i64 t306, .bool t307, .bool t308, .bool false, .bool false]) ?_ 6 _ rfl; (with_reducible repeat (first | refine blk_drewN ?_ _ | refine blk_drew ?_ | refine blk_alloc ?_ _)); refine blk_put (cs := #[.int .i64 t303, .int .i64 t304, .int .i64 t305, .int .i64 t306, .bool t307, .bool false, .bool false, .bool false]) ?_ 5 _ rfl; (with_reducible repeat (first | refine blk_drewN ?_ _ | refine blk_drew ?_ | refine blk_alloc ?_ _)); refine blk_put (cs := #[.int .i64 t303, .int .i64 t304, .int .i64 t305, .int .i64 t306, .bool false, .bool false, .bool false, .bool false]) ?_ 4 _ rfl; (with_reducible repeat (first | refine blk_drewN ?_ _ | refine blk_drew ?_ | refine blk_alloc ?_ _)); refine blk_put (cs := #[.int .i64 t303, .int .i64 t304, .int .i64 t305, .int .i64 0, .bool false, .bool false, .bool false, .bool false]) ?_ 3 _ rfl; (with_reducible repeat (first | refine blk_drewN ?_ _ | refine blk_drew ?_ | refine blk_alloc ?_ _)); refine blk_put (cs := #[.int .i64 t303, .int .i64 t304, .int .i64 0, .int .i64 0, .bool false, .bool false, .bool false, .bool false]) ?_ 2 _ rfl; (with_reducible repeat (first | refine blk_drewN ?_ _ | refine blk_drew ?_ | refine blk_alloc ?_ _)); refine blk_put (cs := #[.int .i64 t303, .int .i64 0, .int .i64 0, .int .i64 0, .bool false, .bool false, .bool false, .bool false]) ?_ 1 _ rfl; (with_reducible repeat (first | refine blk_drewN ?_ _ | refine blk_drew ?_ | refine blk_alloc ?_ _)); refine blk_put (cs := #[.int .i64 0, .int .i64 0, .int .i64 0, .int .i64 0, .bool false, .bool false, .bool false, .bool false]) ?_ 0 _ rfl; (with_reducible repeat (first | refine blk_drewN ?_ _ | refine blk_drew ?_ | refine blk_alloc ?_ _)); exact BK292.out⟩
      have n2_ : Aside0 (Below w.heap.size w ((((((((w11.setCell ⟨gb292, 0, none⟩ (.int .i64 t303)).setCell ⟨gb292, 1, none⟩ (.int .i64 t304)).setCell ⟨gb292, 2, none⟩ (.int .i64 t305)).setCell ⟨gb292, 3, none⟩ (.int .i64 t306)).setCell ⟨gb292, 4, none⟩ (.bool t307)).setCell ⟨gb292, 5, none⟩ (.bool t308)).setCell ⟨gb292, 6, none⟩ (.bool t309)).setCell ⟨gb292, 7, none⟩ (.bool t310))) := ⟨bw HB.out⟩
      (try clear BK283); (try clear BK292); (try clear HB)
      generalize ((((((((w11.setCell ⟨gb292, 0, none⟩ (.int .i64 t303)).setCell ⟨gb292, 1, none⟩ (.int .i64 t304)).setCell ⟨gb292, 2, none⟩ (.int .i64 t305)).setCell ⟨gb292, 3, none⟩ (.int .i64 t306)).setCell ⟨gb292, 4, none⟩ (.bool t307)).setCell ⟨gb292, 5, none⟩ (.bool t308)).setCell ⟨gb292, 6, none⟩ (.bool t309)).setCell ⟨gb292, 7, none⟩ (.bool t310)) = w32 at n0_ n1_ n2_ ⊢
      have BK283 := n0_; have BK292 := n1_; have HB := n2_; clear n0_ n1_ n2_
      have n0_ := Aside0.mk (blk_drew BK283.out)
      have n1_ := Aside0.mk (blk_drew BK292.out)
      have n2_ := Aside0.mk (below_drew1 HB.out)
      clear BK283; clear BK292; clear HB; have BK283 := n0_; have BK292 := n1_; have HB := n2_; clear n0_ n1_ n2_
      refine start_ (n := 27) (S := fun w' => w'.cell? ⟨gb292, 0, none⟩ = some (.int .i64 t303) ∧ w'.cell? ⟨gb292, 1, none⟩ = some (.int .i64 t304) ∧ w'.cell? ⟨gb292, 2, none⟩ = some (.int .i64 t305) ∧ w'.cell? ⟨gb292, 3, none⟩ = some (.int .i64 t306) ∧ w'.cell? ⟨gb292, 4, none⟩ = some (.bool t307) ∧ w'.cell? ⟨gb292, 5, none⟩ = some (.bool t308) ∧ w'.cell? ⟨gb292, 6, none⟩ = some (.bool t309) ∧ w'.cell? ⟨gb292, 7, none⟩ = some (.bool t310) ∧ w'.cell? ⟨gb283, 0, none⟩ = some (.int .i64 t274) ∧ w'.cell? ⟨gb283, 1, none⟩ = some (.int .i64 t275) ∧ w'.cell? ⟨gb283, 2, none⟩ = some (.int .i64 t276) ∧ w'.cell? ⟨gb283, 3, none⟩ = some (.int .i64 t277) ∧ w'.cell? ⟨gb283, 4, none⟩ = some (.bool t278) ∧ w'.cell? ⟨gb283, 5, none⟩ = some (.bool t279) ∧ w'.cell? ⟨gb283, 6, none⟩ = some (.bool t280) ∧ w'.cell? ⟨gb283, 7, none⟩ = some (.bool t281)) (ds := []) #[false, false, false, false, false, false, false, false, false, false, false, false, false, false, false, false, false, false, false, false, false, false, false, false, false, false, false] (by kernel_rfl) rfl rfl ⟨cl BK292 0, cl BK292 1, cl BK292 2, cl BK292 3, cl BK292 4, cl BK292 5, cl BK292 6, cl BK292 7, cl BK283 0, cl BK283 1, cl BK283 2, cl BK283 3, cl BK283 4, cl BK283 5, cl BK283 6, cl BK283 7⟩ (fun hHeld => ?_); refine with_tabW laws_FnFlags.tab5 laws_FnFlags.bits5 (fun HT_ HW_ => ?_)
      generalize w32.drew = w33 at BK283 BK292 HB hHeld ⊢
      refine pure_ (i := 2) (N := some 22) (v := ?_) (a' := ?_) #[false, false, true, false, false, false, false, false, false, false, false, false, false, false, false, false, false, false, false, false, false, false, false, false, false, false, false] rfl rfl (any_of HT_.out (by kernel_rfl)) (fun _ _ _ h => h) (Or.inl ⟨by rfl, ?_⟩) ?_ ?_
      rotate_left
      ·intro w'
       go_simp
       with_reducible rfl
      rotate_left
      ·simp only [Act.put, List.setIfInBounds_toArray, List.set_cons_zero, List.set_cons_succ, i64_w, i32_w]
       rfl
      refine take_ (i := 0) (N := some 20) (v := ?_) (a' := ?_) #[true, false, true, false, false, false, false, false, false, false, false, false, false, false, false, false, false, false, false, false, false, false, false, false, false, false, false] rfl rfl (take_ofW HT_.out HW_.out (by kernel_rfl)) (fun _ _ _ h => h) (Or.inl ⟨by rfl, ?_⟩) hHeld ?_ ?_
      rotate_left
      ·rintro w' ⟨s0, s1, s2, s3, s4, s5, s6, s7, s8, s9, s10, s11, s12, s13, s14, s15⟩
       go_simp
       with_reducible rfl
      rotate_left
      ·simp only [Act.put, List.setIfInBounds_toArray, List.set_cons_zero, List.set_cons_succ, i64_w, i32_w]
       rfl
      refine take_ (i := 1) (N := some 21) (v := ?_) (a' := ?_) #[true, true, true, false, false, false, false, false, false, false, false, false, false, false, false, false, false, false, false, false, false, false, false, false, false, false, false] rfl rfl (take_ofW HT_.out HW_.out (by kernel_rfl)) (fun _ _ _ h => h) (Or.inl ⟨by rfl, ?_⟩) hHeld ?_ ?_
      rotate_left
      ·rintro w' ⟨s0, s1, s2, s3, s4, s5, s6, s7, s8, s9, s10, s11, s12, s13, s14, s15⟩
       go_simp
       with_reducible rfl
      rotate_left
      ·simp only [Act.put, List.setIfInBounds_toArray, List.set_cons_zero, List.set_cons_succ, i64_w, i32_w]
       rfl
      refine one_ (i := 3) (N := some 23) #[true, true, true, true, false, false, false, false, false, false, false, false, false, false, false, false, false, false, false, false, false, false, false, false, false, false, false] rfl rfl (one_of HT_.out (by kernel_rfl)) (by decide) (fun K hK => ?_)
      refine goes_ Try.func27 (by kernel_rfl) rfl #[.agg #[.int .i64 t274, .int .i64 t275, .int .i64 t276, .int .i64 t277, .bool t278, .bool t279, .bool t280, .bool t281], .int .i64 t282] (by rfl) rfl rfl (by (try simp only [List.map_toArray, List.map_cons, List.map_nil]); first | done | rfl | (simp only [List.length_drop, List.length_take]; rfl)) ?_
      with_reducible refine (spec_WithFlags.calls t274 t275 t276 t277 t278 t279 t280 t281 t282 t303 t304 t305 t306 t307 t308 t309 t310 _ A14.out).mono ?_
      rintro e w34 ⟨rfl, hb⟩
      refine ⟨_, rfl, ?_⟩
      have n0_ := Aside0.mk (blk_below (g := gb283) (o := .cells #[.int .i64 t274, .int .i64 t275, .int .i64 t276, .int .i64 t277, .bool t278, .bool t279, .bool t280, .bool t281] 29 (0, 0)) (kb BK283.out) hb)
      have n1_ := Aside0.mk (blk_below (g := gb292) (o := .cells #[.int .i64 t303, .int .i64 t304, .int .i64 t305, .int .i64 t306, .bool t307, .bool t308, .bool t309, .bool t310] 29 (0, 0)) (kb BK292.out) hb)
      have n2_ := Aside0.mk (below_step (bw HB.out) hb)
      clear BK283; clear BK292; clear HB; have BK283 := n0_; have BK292 := n1_; have HB := n2_; clear n0_ n1_ n2_; (try clear hb); (try clear hb2); (try clear hk); (try clear hi)
      refine hK.out _ _ ⟨cl BK292 0, cl BK292 1, cl BK292 2, cl BK292 3, cl BK292 4, cl BK292 5, cl BK292 6, cl BK292 7, cl BK283 0, cl BK283 1, cl BK283 2, cl BK283 3, cl BK283 4, cl BK283 5, cl BK283 6, cl BK283 7⟩ (fun hHeld => ?_)
      clear hK K
      refine norm_ (a' := ?_) ?_ ?_
      rotate_left
      ·show Act.put _ (some 23) _ = _
       simp only [Act.put, List.setIfInBounds_toArray, List.set_cons_zero, List.set_cons_succ, i64_w, i32_w]
       rfl
      refine pure_ (i := 4) (N := some 24) (v := ?_) (a' := ?_) #[true, true, true, true, true, false, false, false, false, false, false, false, false, false, false, false, false, false, false, false, false, false, false, false, false, false, false] rfl rfl (any_of HT_.out (by kernel_rfl)) (fun _ _ _ h => h) (Or.inl ⟨by rfl, ?_⟩) ?_ ?_
      rotate_left
      ·intro w'
       go_simp
       with_reducible rfl
      rotate_left
      ·simp only [Act.put, List.setIfInBounds_toArray, List.set_cons_zero, List.set_cons_succ, i64_w, i32_w]
       rfl
      refine pure_ (i := 5) (N := some 25) (v := ?_) (a' := ?_) #[true, true, true, true, true, true, false, false, false, false, false, false, false, false, false, false, false, false, false, false, false, false, false, false, false, false, false] rfl rfl (any_of HT_.out (by kernel_rfl)) (fun _ _ _ h => h) (Or.inl ⟨by rfl, ?_⟩) ?_ ?_
      rotate_left
      ·intro w'
       go_simp
       with_reducible rfl
      rotate_left
      ·simp only [Act.put, List.setIfInBounds_toArray, List.set_cons_zero, List.set_cons_succ, i64_w, i32_w]
       rfl
      refine pure_ (i := 8) (N := some 28) (v := ?_) (a' := ?_) #[true, true, true, true, true, true, false, false, true, false, false, false, false, false, false, false, false, false, false, false, false, false, false, false, false, false, false] rfl rfl (any_of HT_.out (by kernel_rfl)) (fun _ _ _ h => h) (Or.inl ⟨by rfl, ?_⟩) ?_ ?_
      rotate_left
      ·intro w'
       go_simp
       with_reducible rfl
      rotate_left
      ·simp only [Act.put, List.setIfInBounds_toArray, List.set_cons_zero, List.set_cons_succ, i64_w, i32_w]
       rfl
      refine pure_ (i := 9) (N := some 29) (v := ?_) (a' := ?_) #[true, true, true, true, true, true, false, false, true, true, false, false, false, false, false, false, false, false, false, false, false, false, false, false, false, false, false] rfl rfl (any_of HT_.out (by kernel_rfl)) (fun _ _ _ h => h) (Or.inl ⟨by rfl, ?_⟩) ?_ ?_
      rotate_left
      ·intro w'
       go_simp
       with_reducible rfl
      rotate_left
      ·simp only [Act.put, List.setIfInBounds_toArray, List.set_cons_zero, List.set_cons_succ, i64_w, i32_w]
       rfl
      refine take_ (i := 6) (N := some 26) (v := ?_) (a' := ?_) #[true, true, true, true, true, true, true, false, true, true, false, false, false, false, false, false, false, false, false, false, false, false, false, false, false, false, false] rfl rfl (take_ofW HT_.out HW_.out (by kernel_rfl)) (fun _ _ _ h => h) (Or.inl ⟨by rfl, ?_⟩) hHeld ?_ ?_
      rotate_left
      ·rintro w' ⟨s0, s1, s2, s3, s4, s5, s6, s7, s8, s9, s10, s11, s12, s13, s14, s15⟩
       go_simp
       with_reducible rfl
      rotate_left
      ·simp only [Act.put, List.setIfInBounds_toArray, List.set_cons_zero, List.set_cons_succ, i64_w, i32_w]
       rfl
      refine one_ (i := 7) (N := some 27) #[true, true, true, true, true, true, true, true, true, true, false, false, false, false, false, false, false, false, false, false, false, false, false, false, false, false, false] rfl rfl (one_of HT_.out (by kernel_rfl)) (by decide) (fun K hK => ?_)
      refine goes_ Try.func21 (by kernel_rfl) rfl #[.agg #[.int .i64 t303, .int .i64 t304, .int .i64 t305, .int .i64 t306, .bool t307, .bool t308, .bool t309, .bool t310]] (by rfl) rfl rfl (by (try simp only [List.map_toArray, List.map_cons, List.map_nil]); first | done | rfl | (simp only [List.length_drop, List.length_take]; rfl)) ?_
      with_reducible refine (impl_Flags.calls t303 t304 t305 t306 t307 t308 t309 t310 t301 _ A19.out).mono ?_
      rintro e w35 ⟨rfl, hb⟩
      refine ⟨_, rfl, ?_⟩
      have n0_ := Aside0.mk (blk_below (g := gb283) (o := .cells #[.int .i64 t274, .int .i64 t275, .int .i64 t276, .int .i64 t277, .bool t278, .bool t279, .bool t280, .bool t281] 29 (0, 0)) (kb BK283.out) hb)
      have n1_ := Aside0.mk (blk_below (g := gb292) (o := .cells #[.int .i64 t303, .int .i64 t304, .int .i64 t305, .int .i64 t306, .bool t307, .bool t308, .bool t309, .bool t310] 29 (0, 0)) (kb BK292.out) hb)
      have n2_ := Aside0.mk (below_step (bw HB.out) hb)
      clear BK283; clear BK292; clear HB; have BK283 := n0_; have BK292 := n1_; have HB := n2_; clear n0_ n1_ n2_; (try clear hb); (try clear hb2); (try clear hk); (try clear hi)
      refine hK.out _ _ ⟨cl BK292 0, cl BK292 1, cl BK292 2, cl BK292 3, cl BK292 4, cl BK292 5, cl BK292 6, cl BK292 7, cl BK283 0, cl BK283 1, cl BK283 2, cl BK283 3, cl BK283 4, cl BK283 5, cl BK283 6, cl BK283 7⟩ (fun hHeld => ?_)
      clear hK K
      refine norm_ (a' := ?_) ?_ ?_
      rotate_left
      ·show Act.put _ (some 27) _ = _
       simp only [Act.put, List.setIfInBounds_toArray, List.set_cons_zero, List.set_cons_succ, i64_w, i32_w]
       rfl
      refine pure_ (i := 10) (N := some 30) (v := ?_) (a' := ?_) #[true, true, true, true, true, true, true, true, true, true, true, false, false, false, false, false, false, false, false, false, false, false, false, false, false, false, false] rfl rfl (any_of HT_.out (by kernel_rfl)) (fun _ _ _ h => h) (Or.inl ⟨by rfl, ?_⟩) ?_ ?_
      rotate_left
      ·intro w'
       go_simp
       with_reducible rfl
      rotate_left
      ·simp only [Act.put, List.setIfInBounds_toArray, List.set_cons_zero, List.set_cons_succ, i64_w, i32_w]
       rfl
      refine pure_ (i := 11) (N := some 31) (v := ?_) (a' := ?_) #[true, true, true, true, true, true, true, true, true, true, true, true, false, false, false, false, false, false, false, false, false, false, false, false, false, false, false] rfl rfl (any_of HT_.out (by kernel_rfl)) (fun _ _ _ h => h) (Or.inl ⟨by rfl, ?_⟩) ?_ ?_
      rotate_left
      ·intro w'
       go_simp
       with_reducible rfl
      rotate_left
      ·simp only [Act.put, List.setIfInBounds_toArray, List.set_cons_zero, List.set_cons_succ, i64_w, i32_w]
       rfl
      refine pure_ (i := 12) (N := some 32) (v := ?_) (a' := ?_) #[true, true, true, true, true, true, true, true, true, true, true, true, true, false, false, false, false, false, false, false, false, false, false, false, false, false, false] rfl rfl (any_of HT_.out (by kernel_rfl)) (fun _ _ _ h => h) (Or.inl ⟨by rfl, ?_⟩) ?_ ?_
      rotate_left
      ·intro w'
       go_simp
       with_reducible rfl
      rotate_left
      ·simp only [Act.put, List.setIfInBounds_toArray, List.set_cons_zero, List.set_cons_succ, i64_w, i32_w]
       rfl
      refine take_ (i := 13) (N := some 33) (v := ?_) (a' := ?_) #[true, true, true, true, true, true, true, true, true, true, true, true, true, true, false, false, false, false, false, false, false, false, false, false, false, false, false] rfl rfl (take_ofW HT_.out HW_.out (by kernel_rfl)) (fun _ _ _ h => h) (Or.inl ⟨by rfl, ?_⟩) hHeld ?_ ?_
      rotate_left
      ·rintro w' ⟨s0, s1, s2, s3, s4, s5, s6, s7, s8, s9, s10, s11, s12, s13, s14, s15⟩
       go_simp
       with_reducible rfl
      rotate_left
      ·simp only [Act.put, List.setIfInBounds_toArray, List.set_cons_zero, List.set_cons_succ, i64_w, i32_w]
       rfl
      refine take_ (i := 14) (N := some 34) (v := ?_) (a' := ?_) #[true, true, true, true, true, true, true, true, true, true, true, true, true, true, true, false, false, false, false, false, false, false, false, false, false, false, false] rfl rfl (take_ofW HT_.out HW_.out (by kernel_rfl)) (fun _ _ _ h => h) (Or.inl ⟨by rfl, ?_⟩) hHeld ?_ ?_
      rotate_left
      ·rintro w' ⟨s0, s1, s2, s3, s4, s5, s6, s7, s8, s9, s10, s11, s12, s13, s14, s15⟩
       go_simp
       with_reducible rfl
      rotate_left
      ·simp only [Act.put, List.setIfInBounds_toArray, List.set_cons_zero, List.set_cons_succ, i64_w, i32_w]
       rfl
      refine take_ (i := 17) (N := some 37) (v := ?_) (a' := ?_) #[true, true, true, true, true, true, true, true, true, true, true, true, true, true, true, false, false, true, false, false, false, false, false, false, false, false, false] rfl rfl (take_ofW HT_.out HW_.out (by kernel_rfl)) (fun _ _ _ h => h) (Or.inl ⟨by rfl, ?_⟩) hHeld ?_ ?_
      rotate_left
      ·rintro w' ⟨s0, s1, s2, s3, s4, s5, s6, s7, s8, s9, s10, s11, s12, s13, s14, s15⟩
       go_simp
       with_reducible rfl
      rotate_left
      ·simp only [Act.put, List.setIfInBounds_toArray, List.set_cons_zero, List.set_cons_succ, i64_w, i32_w]
       rfl
      refine one_ (i := 15) (N := some 35) #[true, true, true, true, true, true, true, true, true, true, true, true, true, true, true, true, false, true, false, false, false, false, false, false, false, false, false] rfl rfl (one_of HT_.out (by kernel_rfl)) (by decide) (fun K hK => ?_)
      refine goes_ Try.func21 (by kernel_rfl) rfl #[.agg #[.int .i64 t303, .int .i64 t304, .int .i64 t305, .int .i64 t306, .bool t307, .bool t308, .bool t309, .bool t310]] (by rfl) rfl rfl (by (try simp only [List.map_toArray, List.map_cons, List.map_nil]); first | done | rfl | (simp only [List.length_drop, List.length_take]; rfl)) ?_
      with_reducible refine (impl_Flags.calls t303 t304 t305 t306 t307 t308 t309 t310 t301 _ A21.out).mono ?_
      rintro e w36 ⟨rfl, hb⟩
      refine ⟨_, rfl, ?_⟩
      have n0_ := Aside0.mk (blk_below (g := gb283) (o := .cells #[.int .i64 t274, .int .i64 t275, .int .i64 t276, .int .i64 t277, .bool t278, .bool t279, .bool t280, .bool t281] 29 (0, 0)) (kb BK283.out) hb)
      have n1_ := Aside0.mk (blk_below (g := gb292) (o := .cells #[.int .i64 t303, .int .i64 t304, .int .i64 t305, .int .i64 t306, .bool t307, .bool t308, .bool t309, .bool t310] 29 (0, 0)) (kb BK292.out) hb)
      have n2_ := Aside0.mk (below_step (bw HB.out) hb)
      clear BK283; clear BK292; clear HB; have BK283 := n0_; have BK292 := n1_; have HB := n2_; clear n0_ n1_ n2_; (try clear hb); (try clear hb2); (try clear hk); (try clear hi)
      refine hK.out _ _ ⟨cl BK292 0, cl BK292 1, cl BK292 2, cl BK292 3, cl BK292 4, cl BK292 5, cl BK292 6, cl BK292 7, cl BK283 0, cl BK283 1, cl BK283 2, cl BK283 3, cl BK283 4, cl BK283 5, cl BK283 6, cl BK283 7⟩ (fun hHeld => ?_)
      clear hK K
      refine norm_ (a' := ?_) ?_ ?_
      rotate_left
      ·show Act.put _ (some 35) _ = _
       simp only [Act.put, List.setIfInBounds_toArray, List.set_cons_zero, List.set_cons_succ, i64_w, i32_w]
       rfl
      refine one_ (i := 16) (N := some 36) #[true, true, true, true, true, true, true, true, true, true, true, true, true, true, true, true, true, true, false, false, false, false, false, false, false, false, false] rfl rfl (one_of HT_.out (by kernel_rfl)) (by decide) (fun K hK => ?_)
      refine goes_ Try.func28 (by kernel_rfl) rfl #[.agg #[.int .i64 t303, .int .i64 t304, .int .i64 t305, .int .i64 t306, .bool t307, .bool t308, .bool t309, .bool t310], .int .i64 t301] (by rfl) rfl rfl (by (try simp only [List.map_toArray, List.map_cons, List.map_nil]); first | done | rfl | (simp only [List.length_drop, List.length_take]; rfl)) ?_
      with_reducible refine (impl_WithFlags.calls t303 t304 t305 t306 t307 t308 t309 t310 t301 t303 t304 t305 t306 t307 t308 t309 t310 _ A22.out).mono ?_
      rintro e w37 ⟨rfl, hb⟩
      refine ⟨_, rfl, ?_⟩
      have n0_ := Aside0.mk (blk_below (g := gb283) (o := .cells #[.int .i64 t274, .int .i64 t275, .int .i64 t276, .int .i64 t277, .bool t278, .bool t279, .bool t280, .bool t281] 29 (0, 0)) (kb BK283.out) hb)
      have n1_ := Aside0.mk (blk_below (g := gb292) (o := .cells #[.int .i64 t303, .int .i64 t304, .int .i64 t305, .int .i64 t306, .bool t307, .bool t308, .bool t309, .bool t310] 29 (0, 0)) (kb BK292.out) hb)
      have n2_ := Aside0.mk (below_step (bw HB.out) hb)
      clear BK283; clear BK292; clear HB; have BK283 := n0_; have BK292 := n1_; have HB := n2_; clear n0_ n1_ n2_; (try clear hb); (try clear hb2); (try clear hk); (try clear hi)
      refine hK.out _ _ ⟨cl BK292 0, cl BK292 1, cl BK292 2, cl BK292 3, cl BK292 4, cl BK292 5, cl BK292 6, cl BK292 7, cl BK283 0, cl BK283 1, cl BK283 2, cl BK283 3, cl BK283 4, cl BK283 5, cl BK283 6, cl BK283 7⟩ (fun hHeld => ?_)
      clear hK K
      refine norm_ (a' := ?_) ?_ ?_
      rotate_left
      ·show Act.put _ (some 36) _ = _
       simp only [Act.put, List.setIfInBounds_toArray, List.set_cons_zero, List.set_cons_succ, i64_w, i32_w]
       rfl
      refine pure_ (i := 18) (N := some 38) (v := ?_) (a' := ?_) #[true, true, true, true, true, true, true, true, true, true, true, true, true, true, true, true, true, true, true, false, false, false, false, false, false, false, false] rfl rfl (any_of HT_.out (by kernel_rfl)) (fun _ _ _ h => h) (Or.inl ⟨by rfl, ?_⟩) ?_ ?_
      rotate_left
      ·intro w'
       go_simp
       with_reducible rfl
      rotate_left
      ·simp only [Act.put, List.setIfInBounds_toArray, List.set_cons_zero, List.set_cons_succ, i64_w, i32_w]
       rfl
      refine pure_ (i := 19) (N := some 39) (v := ?_) (a' := ?_) #[true, true, true, true, true, true, true, true, true, true, true, true, true, true, true, true, true, true, true, true, false, false, false, false, false, false, false] rfl rfl (any_of HT_.out (by kernel_rfl)) (fun _ _ _ h => h) (Or.inl ⟨by rfl, ?_⟩) ?_ ?_
      rotate_left
      ·intro w'
       go_simp
       with_reducible rfl
      rotate_left
      ·simp only [Act.put, List.setIfInBounds_toArray, List.set_cons_zero, List.set_cons_succ, i64_w, i32_w]
       rfl
      refine pure_ (i := 20) (N := some 40) (v := ?_) (a' := ?_) #[true, true, true, true, true, true, true, true, true, true, true, true, true, true, true, true, true, true, true, true, true, false, false, false, false, false, false] rfl rfl (any_of HT_.out (by kernel_rfl)) (fun _ _ _ h => h) (Or.inl ⟨by rfl, ?_⟩) ?_ ?_
      rotate_left
      ·intro w'
       go_simp
       with_reducible rfl
      rotate_left
      ·simp only [Act.put, List.setIfInBounds_toArray, List.set_cons_zero, List.set_cons_succ, i64_w, i32_w]
       rfl
      refine take_ (i := 21) (N := some 41) (v := ?_) (a' := ?_) #[true, true, true, true, true, true, true, true, true, true, true, true, true, true, true, true, true, true, true, true, true, true, false, false, false, false, false] rfl rfl (take_ofW HT_.out HW_.out (by kernel_rfl)) (fun _ _ _ h => h) (Or.inl ⟨by rfl, ?_⟩) hHeld ?_ ?_
      rotate_left
      ·rintro w' ⟨s0, s1, s2, s3, s4, s5, s6, s7, s8, s9, s10, s11, s12, s13, s14, s15⟩
       go_simp
       with_reducible rfl
      rotate_left
      ·simp only [Act.put, List.setIfInBounds_toArray, List.set_cons_zero, List.set_cons_succ, i64_w, i32_w]
       rfl
      refine take_ (i := 23) (N := some 43) (v := ?_) (a' := ?_) #[true, true, true, true, true, true, true, true, true, true, true, true, true, true, true, true, true, true, true, true, true, true, false, true, false, false, false] rfl rfl (take_ofW HT_.out HW_.out (by kernel_rfl)) (fun _ _ _ h => h) (Or.inl ⟨by rfl, ?_⟩) hHeld ?_ ?_
      rotate_left
      ·rintro w' ⟨s0, s1, s2, s3, s4, s5, s6, s7, s8, s9, s10, s11, s12, s13, s14, s15⟩
       go_simp
       with_reducible rfl
      rotate_left
      ·simp only [Act.put, List.setIfInBounds_toArray, List.set_cons_zero, List.set_cons_succ, i64_w, i32_w]
       rfl
      refine one_ (i := 22) (N := some 42) #[true, true, true, true, true, true, true, true, true, true, true, true, true, true, true, true, true, true, true, true, true, true, true, true, false, false, false] rfl rfl (one_of HT_.out (by kernel_rfl)) (by decide) (fun K hK => ?_)
      refine goes_ Try.func56 (by kernel_rfl) rfl #[.agg #[.int .i64 t274, .int .i64 t275, .int .i64 t276, .int .i64 t277, .bool t278, .bool t279, .bool t280, .bool t281]] (by rfl) rfl rfl (by (try simp only [List.map_toArray, List.map_cons, List.map_nil]); first | done | rfl | (simp only [List.length_drop, List.length_take]; rfl)) ?_
      with_reducible refine (impl_CpuOk.calls t274 t275 t276 t277 t278 t279 t280 t281 t311 _ A30.out).mono ?_
      rintro e w38 ⟨rfl, hb⟩
      refine ⟨_, rfl, ?_⟩
      have n0_ := Aside0.mk (blk_below (g := gb283) (o := .cells #[.int .i64 t274, .int .i64 t275, .int .i64 t276, .int .i64 t277, .bool t278, .bool t279, .bool t280, .bool t281] 29 (0, 0)) (kb BK283.out) hb)
      have n1_ := Aside0.mk (blk_below (g := gb292) (o := .cells #[.int .i64 t303, .int .i64 t304, .int .i64 t305, .int .i64 t306, .bool t307, .bool t308, .bool t309, .bool t310] 29 (0, 0)) (kb BK292.out) hb)
      have n2_ := Aside0.mk (below_step (bw HB.out) hb)
      clear BK283; clear BK292; clear HB; have BK283 := n0_; have BK292 := n1_; have HB := n2_; clear n0_ n1_ n2_; (try clear hb); (try clear hb2); (try clear hk); (try clear hi)
      refine hK.out _ _ ⟨cl BK292 0, cl BK292 1, cl BK292 2, cl BK292 3, cl BK292 4, cl BK292 5, cl BK292 6, cl BK292 7, cl BK283 0, cl BK283 1, cl BK283 2, cl BK283 3, cl BK283 4, cl BK283 5, cl BK283 6, cl BK283 7⟩ (fun hHeld => ?_)
      clear hK K
      refine norm_ (a' := ?_) ?_ ?_
      rotate_left
      ·show Act.put _ (some 42) _ = _
       simp only [Act.put, List.setIfInBounds_toArray, List.set_cons_zero, List.set_cons_succ, i64_w, i32_w]
       rfl
      refine one_ (i := 24) (N := some 44) #[true, true, true, true, true, true, true, true, true, true, true, true, true, true, true, true, true, true, true, true, true, true, true, true, true, false, false] rfl rfl (one_of HT_.out (by kernel_rfl)) (by decide) (fun K hK => ?_)
      refine goes_ Try.func57 (by kernel_rfl) rfl #[.agg #[.int .i64 t274, .int .i64 t275, .int .i64 t276, .int .i64 t277, .bool t278, .bool t279, .bool t280, .bool t281]] (by rfl) rfl rfl (by (try simp only [List.map_toArray, List.map_cons, List.map_nil]); first | done | rfl | (simp only [List.length_drop, List.length_take]; rfl)) ?_
      with_reducible refine (spec_CpuOk.calls t274 t275 t276 t277 t278 t279 t280 t281 t312 _ A31.out).mono ?_
      rintro e w39 ⟨rfl, hb⟩
      refine ⟨_, rfl, ?_⟩
      have n0_ := Aside0.mk (blk_below (g := gb283) (o := .cells #[.int .i64 t274, .int .i64 t275, .int .i64 t276, .int .i64 t277, .bool t278, .bool t279, .bool t280, .bool t281] 29 (0, 0)) (kb BK283.out) hb)
      have n1_ := Aside0.mk (blk_below (g := gb292) (o := .cells #[.int .i64 t303, .int .i64 t304, .int .i64 t305, .int .i64 t306, .bool t307, .bool t308, .bool t309, .bool t310] 29 (0, 0)) (kb BK292.out) hb)
      have n2_ := Aside0.mk (below_step (bw HB.out) hb)
      clear BK283; clear BK292; clear HB; have BK283 := n0_; have BK292 := n1_; have HB := n2_; clear n0_ n1_ n2_; (try clear hb); (try clear hb2); (try clear hk); (try clear hi)
      refine hK.out _ _ ⟨cl BK292 0, cl BK292 1, cl BK292 2, cl BK292 3, cl BK292 4, cl BK292 5, cl BK292 6, cl BK292 7, cl BK283 0, cl BK283 1, cl BK283 2, cl BK283 3, cl BK283 4, cl BK283 5, cl BK283 6, cl BK283 7⟩ (fun hHeld => ?_)
      clear hK K
      refine norm_ (a' := ?_) ?_ ?_
      rotate_left
      ·show Act.put _ (some 44) _ = _
       simp only [Act.put, List.setIfInBounds_toArray, List.set_cons_zero, List.set_cons_succ, i64_w, i32_w]
       rfl
      refine pure_ (i := 25) (N := some 45) (v := ?_) (a' := ?_) #[true, true, true, true, true, true, true, true, true, true, true, true, true, true, true, true, true, true, true, true, true, true, true, true, true, true, false] rfl rfl (any_of HT_.out (by kernel_rfl)) (fun _ _ _ h => h) (Or.inl ⟨by rfl, ?_⟩) ?_ ?_
      rotate_left
      ·intro w'
       go_simp
       with_reducible rfl
      rotate_left
      ·simp only [Act.put, List.setIfInBounds_toArray, List.set_cons_zero, List.set_cons_succ, i64_w, i32_w]
       rfl
      refine pure_ (i := 26) (N := some 46) (v := ?_) (a' := ?_) #[true, true, true, true, true, true, true, true, true, true, true, true, true, true, true, true, true, true, true, true, true, true, true, true, true, true, true] rfl rfl (any_of HT_.out (by kernel_rfl)) (fun _ _ _ h => h) (Or.inl ⟨by rfl, ?_⟩) ?_ ?_
      rotate_left
      ·intro w'
       go_simp
       with_reducible rfl
      rotate_left
      ·simp only [Act.put, List.setIfInBounds_toArray, List.set_cons_zero, List.set_cons_succ, i64_w, i32_w]
       rfl
      refine done_ (done_of HT_.out (by kernel_rfl)) ?_
      try go_wp2
      go_meet
      case rel => exact ⟨_, ((t311 != t312)), (by first | rfl | (simp; done) | (simp [*]; done)), H', ⟨by first | omega | exact Nat.le_refl _⟩, ⟨kb BK283.out⟩, ⟨kb BK292.out⟩, ⟨bw HB.out⟩⟩
    ·rw [if_neg c20] at H
     have c20b0 : (t301 == (Go.bits .and .i64 t282 135)) = false := beq_eq_false_iff_ne.mpr c20
     have c20b1 : (t301 != (Go.bits .and .i64 t282 135)) = true := bne_iff_ne.mpr c20
     exact absurd (show r = false by first | (cases k with | zero => (simp [laws_FnFlags.j0] at H; done) | succ k_ => (simp [laws_FnFlags.j0] at H; (first | exact H | exact H.symm))) | (cases kj5 with | zero => (simp [laws_FnFlags.j0] at H; done) | succ k_ => (simp [laws_FnFlags.j0] at H; (first | exact H | exact H.symm)))) (by rw [hrt]; decide)
  case rest =>
   clear HC6; (try clear c2); (try clear p2); (try clear c5); (try clear c20); (try clear c20b0); (try clear c20b1); (try clear c21); (try clear c27); (try clear c28)
   obtain ⟨kq, x46_5, rfl, HA, HJ5, BK283, BK292, HB⟩ := hcut
   cases kq with
   | zero => exact absurd HA.out (by simp [laws_FnFlags.j0])
   | succ kj5 =>
    have H := HA.out
    clear HA
    simp only [laws_FnFlags.j0] at H
    by_cases c44 : x46_5 = true
    ·subst c44
     have H1 : (some false) = some r := by rw [if_pos rfl] at H; exact H
     clear H
     have H := H1
     clear H1
     exact absurd ((Option.some.inj H).trans hrt) (by decide)
    ·replace c44 := Bool.eq_false_iff.mpr c44
     subst c44
     have H1 : ((spec_DrawSetA.f kj5 l0).bind fun bt313 => ((impl_SetA.f bt313.1 bt313.2.1 bt313.2.2.1 bt313.2.2.2.1 bt313.2.2.2.2.1 bt313.2.2.2.2.2.1 bt313.2.2.2.2.2.2.1 bt313.2.2.2.2.2.2.2.1 bt313.2.2.2.2.2.2.2.2).bind fun bt323 => ((impl_SetX.f bt313.1 bt313.2.1 bt313.2.2.1 bt313.2.2.2.1 bt313.2.2.2.2.1 bt313.2.2.2.2.2.1 bt313.2.2.2.2.2.2.1 bt313.2.2.2.2.2.2.2.1 bt313.2.2.2.2.2.2.2.2).bind fun bt331 => ((impl_Byte.f bt313.2.2.2.2.2.2.2.2).bind fun t341 => (if bt323.1 = t341 then ((impl_Byte.f bt313.2.2.2.2.2.2.2.2).bind fun t342 => (if bt331.2.1 = t342 then (if bt323.2.1 = bt313.2.1 then (if bt331.1 = bt313.1 then (if (bt323.2.2.2.2.1 == (bt323.1 == 0)) = true then (if (bt331.2.2.2.2.2.1 == (decide (bt331.2.1 > 127))) = true then (if (bt323.2.2.2.2.2.2.1 == bt313.2.2.2.2.2.2.1) = true then (if t284 = t274 then (some (t287 == t277)) else (some false)) else (some false)) else (some false)) else (some false)) else (some false)) else (some false)) else (some false))) else (some false)))))) = some r := by rw [if_neg (show ¬ (false = true) by decide)] at H; exact H
     clear H
     have H := H1
     clear H1
     replace H := Option.bind_eq_some_iff.mp H
     obtain ⟨⟨t313, t314, t315, t316, t317, t318, t319, t320, t321⟩, A450, H⟩ := H
     replace H : ((impl_SetA.f t313 t314 t315 t316 t317 t318 t319 t320 t321).bind fun bt323 => ((impl_SetX.f t313 t314 t315 t316 t317 t318 t319 t320 t321).bind fun bt331 => ((impl_Byte.f t321).bind fun t341 => (if bt323.1 = t341 then ((impl_Byte.f t321).bind fun t342 => (if bt331.2.1 = t342 then (if bt323.2.1 = t314 then (if bt331.1 = t313 then (if (bt323.2.2.2.2.1 == (bt323.1 == 0)) = true then (if (bt331.2.2.2.2.2.1 == (decide (bt331.2.1 > 127))) = true then (if (bt323.2.2.2.2.2.2.1 == t319) = true then (if t284 = t274 then (some (t287 == t277)) else (some false)) else (some false)) else (some false)) else (some false)) else (some false)) else (some false)) else (some false))) else (some false))))) = some r := H
     have A45 := Aside0.mk A450
     clear A450
     replace H := Option.bind_eq_some_iff.mp H
     obtain ⟨⟨t323, t324, t325, t326, t327, t328, t329, t330⟩, A460, H⟩ := H
     replace H : ((impl_SetX.f t313 t314 t315 t316 t317 t318 t319 t320 t321).bind fun bt331 => ((impl_Byte.f t321).bind fun t341 => (if t323 = t341 then ((impl_Byte.f t321).bind fun t342 => (if bt331.2.1 = t342 then (if t324 = t314 then (if bt331.1 = t313 then (if (t327 == (t323 == 0)) = true then (if (bt331.2.2.2.2.2.1 == (decide (bt331.2.1 > 127))) = true then (if (t329 == t319) = true then (if t284 = t274 then (some (t287 == t277)) else (some false)) else (some false)) else (some false)) else (some false)) else (some false)) else (some false)) else (some false))) else (some false)))) = some r := H
     have A46 := Aside0.mk A460
     clear A460
     replace H := Option.bind_eq_some_iff.mp H
     obtain ⟨⟨t331, t332, t333, t334, t335, t336, t337, t338⟩, A470, H⟩ := H
     replace H : ((impl_Byte.f t321).bind fun t341 => (if t323 = t341 then ((impl_Byte.f t321).bind fun t342 => (if t332 = t342 then (if t324 = t314 then (if t331 = t313 then (if (t327 == (t323 == 0)) = true then (if (t336 == (decide (t332 > 127))) = true then (if (t329 == t319) = true then (if t284 = t274 then (some (t287 == t277)) else (some false)) else (some false)) else (some false)) else (some false)) else (some false)) else (some false)) else (some false))) else (some false))) = some r := H
     have A47 := Aside0.mk A470
     clear A470
     replace H := Option.bind_eq_some_iff.mp H
     obtain ⟨t341, A480, H⟩ := H
     replace H : (if t323 = t341 then ((impl_Byte.f t321).bind fun t342 => (if t332 = t342 then (if t324 = t314 then (if t331 = t313 then (if (t327 == (t323 == 0)) = true then (if (t336 == (decide (t332 > 127))) = true then (if (t329 == t319) = true then (if t284 = t274 then (some (t287 == t277)) else (some false)) else (some false)) else (some false)) else (some false)) else (some false)) else (some false)) else (some false))) else (some false)) = some r := H
     have A48 := Aside0.mk A480
     clear A480
     by_cases c49 : t323 = t341
     ·rw [if_pos c49] at H
      have c49b0 : (t323 == t341) = true := beq_iff_eq.mpr c49
      have c49b1 : (t323 != t341) = false := bne_eq_false_iff_eq.mpr c49
      clear c49
      replace H := Option.bind_eq_some_iff.mp H
      obtain ⟨t342, A500, H⟩ := H
      have e_ := Option.some.inj (A48.out.symm.trans A500)
      subst e_
      replace H : (if t332 = t341 then (if t324 = t314 then (if t331 = t313 then (if (t327 == (t323 == 0)) = true then (if (t336 == (decide (t332 > 127))) = true then (if (t329 == t319) = true then (if t284 = t274 then (some (t287 == t277)) else (some false)) else (some false)) else (some false)) else (some false)) else (some false)) else (some false)) else (some false)) = some r := H
      have A50 := Aside0.mk A500
      clear A500
      by_cases c51 : t332 = t341
      ·rw [if_pos c51] at H
       have c51b0 : (t332 == t341) = true := beq_iff_eq.mpr c51
       have c51b1 : (t332 != t341) = false := bne_eq_false_iff_eq.mpr c51
       clear c51
       by_cases c52 : t324 = t314
       ·rw [if_pos c52] at H
        have c52b0 : (t324 == t314) = true := beq_iff_eq.mpr c52
        have c52b1 : (t324 != t314) = false := bne_eq_false_iff_eq.mpr c52
        clear c52
        by_cases c53 : t331 = t313
        ·rw [if_pos c53] at H
         have c53b0 : (t331 == t313) = true := beq_iff_eq.mpr c53
         have c53b1 : (t331 != t313) = false := bne_eq_false_iff_eq.mpr c53
         clear c53
         by_cases c54 : (t327 == (t323 == 0)) = true
         ·rw [if_pos c54] at H
          have c54b0 : (t327 == (t323 == 0)) = true := c54
          (try (have c54b1 : decide (t327 = (t323 == 0)) = true := by simpa using c54))
          (try (have c54b2 : (t327 == (t323 == 0)) = true := by simpa using c54))
          clear c54
          by_cases c55 : (t336 == (decide (t332 > 127))) = true
          ·rw [if_pos c55] at H
           have c55b0 : (t336 == (decide (t332 > 127))) = true := c55
           (try (have c55b1 : decide (t336 = (decide (t332 > 127))) = true := by simpa using c55))
           (try (have c55b2 : (t336 == (decide (t332 > 127))) = true := by simpa using c55))
           clear c55
           by_cases c56 : (t329 == t319) = true
           ·rw [if_pos c56] at H
            have c56b0 : (t329 == t319) = true := c56
            (try (have c56b1 : decide (t329 = t319) = true := by simpa using c56))
            (try (have c56b2 : (t329 == t319) = true := by simpa using c56))
            clear c56
            by_cases c57 : t284 = t274
            ·rw [if_pos c57] at H
             have c57b0 : (t284 == t274) = true := beq_iff_eq.mpr c57
             have c57b1 : (t284 != t274) = false := bne_eq_false_iff_eq.mpr c57
             clear c57; clear hrt
             obtain rfl := Option.some.inj H
             try go_wp2_with (first | ((with_reducible refine gate_callee (f := 58) rfl ?_); refine goesM_ (some 49) rfl rfl Try.func58 #[.slice A0 l0.length c0] ?_; (with_reducible refine (spec_DrawSetA.calls kj5 _ _ l0 t313 t314 t315 t316 t317 t318 t319 t320 t321 _ ?side1 ?side2 A45.out).mono ?_); (case side1 => exact kc (Kd.C_below HR0.out HB.out)); (case side2 => exact HC0.out); rintro e w58 ⟨rfl, hb⟩; refine ⟨_, rfl, ?_⟩; have n0_ := Aside0.mk (blk_below (g := gb283) (o := .cells #[.int .i64 t274, .int .i64 t275, .int .i64 t276, .int .i64 t277, .bool t278, .bool t279, .bool t280, .bool t281] 29 (0, 0)) (kb BK283.out) hb); have n1_ := Aside0.mk (blk_below (g := gb292) (o := .cells #[.int .i64 t284, .int .i64 t285, .int .i64 t286, .int .i64 t287, .bool t288, .bool t289, .bool t290, .bool t291] 29 (0, 0)) (kb BK292.out) hb); have n2_ := Aside0.mk (below_step (bw HB.out) hb); clear BK283; clear BK292; clear HB; have BK283 := n0_; have BK292 := n1_; have HB := n2_; clear n0_ n1_ n2_; (try clear hb); (try clear hb2); (try clear hk); (try clear hi)) | ((with_reducible refine gate_dst (N := 6) rfl ?_); refine bx (N := 6) (cs := #[.int .i64 0, .int .i64 0, .int .i64 0, .int .i64 0, .bool false, .bool false, .bool false, .bool false]) (t := 29) ?_; intro gb322 hg w59 hbox hb; have n0_ := Aside0.mk (blk_below (g := gb283) (o := .cells #[.int .i64 t274, .int .i64 t275, .int .i64 t276, .int .i64 t277, .bool t278, .bool t279, .bool t280, .bool t281] 29 (0, 0)) (kb BK283.out) hb); have n1_ := Aside0.mk (blk_below (g := gb292) (o := .cells #[.int .i64 t284, .int .i64 t285, .int .i64 t286, .int .i64 t287, .bool t288, .bool t289, .bool t290, .bool t291] 29 (0, 0)) (kb BK292.out) hb); have n2_ := Aside0.mk (below_step (bw HB.out) hb); have n3_ := Aside0.mk (hbox); have n4_ := Aside0.mk ((gs hg (bw HB.out))); have n5_ := Aside0.mk ((gs hg (bw HB.out))); have n6_ := Aside0.mk ((ga hg BK283.out)); have n7_ := Aside0.mk ((gc hg BK283.out)); have n8_ := Aside0.mk ((ga hg BK292.out)); have n9_ := Aside0.mk ((gc hg BK292.out)); clear BK283; clear BK292; clear HB; have BK283 := n0_; have BK292 := n1_; have HB := n2_; have BK322 := n3_; have GW322 := n4_; have GE322 := n5_; have NB283_322 := n6_; have NB322_283 := n7_; have NB292_322 := n8_; have NB322_292 := n9_; clear n0_ n1_ n2_ n3_ n4_ n5_ n6_ n7_ n8_ n9_; clear hb hbox hg; have hnb60 := NB322_283.out; have hnc60 := NB283_322.out; have hnb61 := NB322_292.out; have hnc61 := NB292_322.out; have hcz62_0 : w59.cell? ⟨gb322, 0, none⟩ = some (.int .i64 0) := cl BK322 0; have hcz62_1 : w59.cell? ⟨gb322, 1, none⟩ = some (.int .i64 0) := cl BK322 1; have hcz62_2 : w59.cell? ⟨gb322, 2, none⟩ = some (.int .i64 0) := cl BK322 2; have hcz62_3 : w59.cell? ⟨gb322, 3, none⟩ = some (.int .i64 0) := cl BK322 3; have hcz62_4 : w59.cell? ⟨gb322, 4, none⟩ = some (.bool false) := cl BK322 4; have hcz62_5 : w59.cell? ⟨gb322, 5, none⟩ = some (.bool false) := cl BK322 5; have hcz62_6 : w59.cell? ⟨gb322, 6, none⟩ = some (.bool false) := cl BK322 6; have hcz62_7 : w59.cell? ⟨gb322, 7, none⟩ = some (.bool false) := cl BK322 7; have hfz62_0 := blk_frozen BK322.out 0; have hfz62_1 := blk_frozen BK322.out 1; have hfz62_2 := blk_frozen BK322.out 2; have hfz62_3 := blk_frozen BK322.out 3; have hfz62_4 := blk_frozen BK322.out 4; have hfz62_5 := blk_frozen BK322.out 5; have hfz62_6 := blk_frozen BK322.out 6; have hfz62_7 := blk_frozen BK322.out 7))
             have n0_ : Aside0 (((((((((w59.setCell ⟨gb322, 0, none⟩ (.int .i64 t313)).setCell ⟨gb322, 1, none⟩ (.int .i64 t314)).setCell ⟨gb322, 2, none⟩ (.int .i64 t315)).setCell ⟨gb322, 3, none⟩ (.int .i64 t316)).setCell ⟨gb322, 4, none⟩ (.bool t317)).setCell ⟨gb322, 5, none⟩ (.bool t318)).setCell ⟨gb322, 6, none⟩ (.bool t319)).setCell ⟨gb322, 7, none⟩ (.bool t320)).heap[gb283]? = some (.cells #[.int .i64 t274, .int .i64 t275, .int .i64 t276, .int .i64 t277, .bool t278, .bool t279, .bool t280, .bool t281] 29 (0, 0))) := ⟨kf BK283.out⟩
             have n1_ : Aside0 (((((((((w59.setCell ⟨gb322, 0, none⟩ (.int .i64 t313)).setCell ⟨gb322, 1, none⟩ (.int .i64 t314)).setCell ⟨gb322, 2, none⟩ (.int .i64 t315)).setCell ⟨gb322, 3, none⟩ (.int .i64 t316)).setCell ⟨gb322, 4, none⟩ (.bool t317)).setCell ⟨gb322, 5, none⟩ (.bool t318)).setCell ⟨gb322, 6, none⟩ (.bool t319)).setCell ⟨gb322, 7, none⟩ (.bool t320)).heap[gb292]? = some (.cells #[.int .i64 t284, .int .i64 t285, .int .i64 t286, .int .i64 t287, .bool t288, .bool t289, .bool t290, .bool t291] 29 (0, 0))) := ⟨kf BK292.out⟩
             have n2_ : Aside0 (((((((((w59.setCell ⟨gb322, 0, none⟩ (.int .i64 t313)).setCell ⟨gb322, 1, none⟩ (.int .i64 t314)).setCell ⟨gb322, 2, none⟩ (.int .i64 t315)).setCell ⟨gb322, 3, none⟩ (.int .i64 t316)).setCell ⟨gb322, 4, none⟩ (.bool t317)).setCell ⟨gb322, 5, none⟩ (.bool t318)).setCell ⟨gb322, 6, none⟩ (.bool t319)).setCell ⟨gb322, 7, none⟩ (.bool t320)).heap[gb322]? = some (.cells #[.int .i64 t313, .int .i64 t314, .int .i64 t315, .int .i64 t316, .bool t317, .bool t318, .bool t319, .bool t320] 29 (0, 0))) := ⟨by (with_reducible repeat (first | refine blk_drewN ?_ _ | refine blk_drew ?_ | refine blk_alloc ?_ _)); refine blk_put (cs := #[.int .i64 t313, .int .i64 t314, .int .i64 t315, .int .i64 t316, .bool t317, .bool t318, .bool t319, .bool false]) ?_ 7 _ rfl; (with_reducible repeat (first | refine blk_drewN ?_ _ | refine blk_drew ?_ | refine blk_alloc ?_ _)); refine blk_put (cs := #[.int .i64 t313, .int .i64 t314, .int .i64 t315, .int .i64 t316, .bool t317, .bool t318, .bool false, .bool false]) ?_ 6 _ rfl; (with_reducible repeat (first | refine blk_drewN ?_ _ | refine blk_drew ?_ | refine blk_alloc ?_ _)); refine blk_put (cs := #[.int .i64 t313, .int .i64 t314, .int .i64 t315, .int .i64 t316, .bool t317, .bool false, .bool false, .bool false]) ?_ 5 _ rfl; (with_reducible repeat (first | refine blk_drewN ?_ _ | refine blk_drew ?_ | refine blk_alloc ?_ _)); refine blk_put (cs := #[.int .i64 t313, .int .i64 t314, .int .i64 t315, .int .i64 t316, .bool false, .bool false, .bool false, .bool false]) ?_ 4 _ rfl; (with_reducible repeat (first | refine blk_drewN ?_ _ | refine blk_drew ?_ | refine blk_alloc ?_ _)); refine blk_put (cs := #[.int .i64 t313, .int .i64 t314, .int .i64 t315, .int .i64 0, .bool false, .bool false, .bool false, .bool false]) ?_ 3 _ rfl; (with_reducible repeat (first | refine blk_drewN ?_ _ | refine blk_drew ?_ | refine blk_alloc ?_ _)); refine blk_put (cs := #[.int .i64 t313, .int .i64 t314, .int .i64 0, .int .i64 0, .bool false, .bool false, .bool false, .bool false]) ?_ 2 _ rfl; (with_reducible repeat (first | refine blk_drewN ?_ _ | refine blk_drew ?_ | refine blk_alloc ?_ _)); refine blk_put (cs := #[.int .i64 t313, .int .i64 0, .int .i64 0, .int .i64 0, .bool false, .bool false, .bool false, .bool false]) ?_ 1 _ rfl; (with_reducible repeat (first | refine blk_drewN ?_ _ | refine blk_drew ?_ | refine blk_alloc ?_ _)); refine blk_put (cs := #[.int .i64 0, .int .i64 0, .int .i64 0, .int .i64 0, .bool false, .bool false, .bool false, .bool false]) ?_ 0 _ rfl; (with_reducible repeat (first | refine blk_drewN ?_ _ | refine blk_drew ?_ | refine blk_alloc ?_ _)); exact BK322.out⟩
             have n3_ : Aside0 (Below w.heap.size w ((((((((w59.setCell ⟨gb322, 0, none⟩ (.int .i64 t313)).setCell ⟨gb322, 1, none⟩ (.int .i64 t314)).setCell ⟨gb322, 2, none⟩ (.int .i64 t315)).setCell ⟨gb322, 3, none⟩ (.int .i64 t316)).setCell ⟨gb322, 4, none⟩ (.bool t317)).setCell ⟨gb322, 5, none⟩ (.bool t318)).setCell ⟨gb322, 6, none⟩ (.bool t319)).setCell ⟨gb322, 7, none⟩ (.bool t320))) := ⟨bw HB.out⟩
             (try clear BK283); (try clear BK292); (try clear BK322); (try clear HB)
             generalize ((((((((w59.setCell ⟨gb322, 0, none⟩ (.int .i64 t313)).setCell ⟨gb322, 1, none⟩ (.int .i64 t314)).setCell ⟨gb322, 2, none⟩ (.int .i64 t315)).setCell ⟨gb322, 3, none⟩ (.int .i64 t316)).setCell ⟨gb322, 4, none⟩ (.bool t317)).setCell ⟨gb322, 5, none⟩ (.bool t318)).setCell ⟨gb322, 6, none⟩ (.bool t319)).setCell ⟨gb322, 7, none⟩ (.bool t320)) = w63 at n0_ n1_ n2_ n3_ ⊢
             have BK283 := n0_; have BK292 := n1_; have BK322 := n2_; have HB := n3_; clear n0_ n1_ n2_ n3_
             have n0_ := Aside0.mk (blk_drew BK283.out)
             have n1_ := Aside0.mk (blk_drew BK292.out)
             have n2_ := Aside0.mk (blk_drew BK322.out)
             have n3_ := Aside0.mk (below_drew1 HB.out)
             clear BK283; clear BK292; clear BK322; clear HB; have BK283 := n0_; have BK292 := n1_; have BK322 := n2_; have HB := n3_; clear n0_ n1_ n2_ n3_
             refine start_ (n := 10) (S := fun w' => w'.cell? ⟨gb322, 0, none⟩ = some (.int .i64 t313) ∧ w'.cell? ⟨gb322, 1, none⟩ = some (.int .i64 t314) ∧ w'.cell? ⟨gb322, 2, none⟩ = some (.int .i64 t315) ∧ w'.cell? ⟨gb322, 3, none⟩ = some (.int .i64 t316) ∧ w'.cell? ⟨gb322, 4, none⟩ = some (.bool t317) ∧ w'.cell? ⟨gb322, 5, none⟩ = some (.bool t318) ∧ w'.cell? ⟨gb322, 6, none⟩ = some (.bool t319) ∧ w'.cell? ⟨gb322, 7, none⟩ = some (.bool t320)) (ds := []) #[false, false, false, false, false, false, false, false, false, false] (by kernel_rfl) rfl rfl ⟨cl BK322 0, cl BK322 1, cl BK322 2, cl BK322 3, cl BK322 4, cl BK322 5, cl BK322 6, cl BK322 7⟩ (fun hHeld => ?_); refine with_tabW laws_FnFlags.tab8 laws_FnFlags.bits8 (fun HT_ HW_ => ?_)
             generalize w63.drew = w64 at BK283 BK292 BK322 HB hHeld ⊢
             refine pure_ (i := 1) (N := some 53) (v := ?_) (a' := ?_) #[false, true, false, false, false, false, false, false, false, false] rfl rfl (any_of HT_.out (by kernel_rfl)) (fun _ _ _ h => h) (Or.inl ⟨by rfl, ?_⟩) ?_ ?_
             rotate_left
             ·intro w'
              go_simp
              with_reducible rfl
             rotate_left
             ·simp only [Act.put, List.setIfInBounds_toArray, List.set_cons_zero, List.set_cons_succ, i64_w, i32_w]
              rfl
             refine pure_ (i := 4) (N := some 56) (v := ?_) (a' := ?_) #[false, true, false, false, true, false, false, false, false, false] rfl rfl (any_of HT_.out (by kernel_rfl)) (fun _ _ _ h => h) (Or.inl ⟨by rfl, ?_⟩) ?_ ?_
             rotate_left
             ·intro w'
              go_simp
              with_reducible rfl
             rotate_left
             ·simp only [Act.put, List.setIfInBounds_toArray, List.set_cons_zero, List.set_cons_succ, i64_w, i32_w]
              rfl
             refine take_ (i := 0) (N := some 52) (v := ?_) (a' := ?_) #[true, true, false, false, true, false, false, false, false, false] rfl rfl (take_ofW HT_.out HW_.out (by kernel_rfl)) (fun _ _ _ h => h) (Or.inl ⟨by rfl, ?_⟩) hHeld ?_ ?_
             rotate_left
             ·rintro w' ⟨s0, s1, s2, s3, s4, s5, s6, s7⟩
              go_simp
              with_reducible rfl
             rotate_left
             ·simp only [Act.put, List.setIfInBounds_toArray, List.set_cons_zero, List.set_cons_succ, i64_w, i32_w]
              rfl
             refine take_ (i := 3) (N := some 55) (v := ?_) (a' := ?_) #[true, true, false, true, true, false, false, false, false, false] rfl rfl (take_ofW HT_.out HW_.out (by kernel_rfl)) (fun _ _ _ h => h) (Or.inl ⟨by rfl, ?_⟩) hHeld ?_ ?_
             rotate_left
             ·rintro w' ⟨s0, s1, s2, s3, s4, s5, s6, s7⟩
              go_simp
              with_reducible rfl
             rotate_left
             ·simp only [Act.put, List.setIfInBounds_toArray, List.set_cons_zero, List.set_cons_succ, i64_w, i32_w]
              rfl
             refine join_ (σ := Nat × Nat) 2 #[true, true, true, true, true, true, true, true, false, false] (fun s_ => [(54, .agg #[.int .i64 t323, .int .i64 t324, .int .i64 t325, .int .i64 t326, .bool t327, .bool t328, .bool t329, .bool t330]), (57, .agg #[.int .i64 t331, .int .i64 t332, .int .i64 t333, .int .i64 t334, .bool t335, .bool t336, .bool t337, .bool t338]), (8, .pointer (some ⟨s_.1, 0, none⟩)), (9, .pointer (some ⟨s_.2, 0, none⟩))]) (fun s_ w' => (w'.cell? ⟨gb322, 0, none⟩ = some (.int .i64 t313) ∧ w'.cell? ⟨gb322, 1, none⟩ = some (.int .i64 t314) ∧ w'.cell? ⟨gb322, 2, none⟩ = some (.int .i64 t315) ∧ w'.cell? ⟨gb322, 3, none⟩ = some (.int .i64 t316) ∧ w'.cell? ⟨gb322, 4, none⟩ = some (.bool t317) ∧ w'.cell? ⟨gb322, 5, none⟩ = some (.bool t318) ∧ w'.cell? ⟨gb322, 6, none⟩ = some (.bool t319) ∧ w'.cell? ⟨gb322, 7, none⟩ = some (.bool t320)) ∧ (w'.heap[gb283]? = some (.cells #[.int .i64 t274, .int .i64 t275, .int .i64 t276, .int .i64 t277, .bool t278, .bool t279, .bool t280, .bool t281] 29 (0, 0))) ∧ (w'.heap[gb292]? = some (.cells #[.int .i64 t284, .int .i64 t285, .int .i64 t286, .int .i64 t287, .bool t288, .bool t289, .bool t290, .bool t291] 29 (0, 0))) ∧ (w'.heap[gb322]? = some (.cells #[.int .i64 t313, .int .i64 t314, .int .i64 t315, .int .i64 t316, .bool t317, .bool t318, .bool t319, .bool t320] 29 (0, 0))) ∧ (w'.heap[s_.1]? = some (.cells #[.int .i64 0, .int .i64 0, .int .i64 0, .int .i64 0, .bool false, .bool false, .bool false, .bool false] 29 (0, 0))) ∧ (w'.heap[s_.2]? = some (.cells #[.int .i64 0, .int .i64 0, .int .i64 0, .int .i64 0, .bool false, .bool false, .bool false, .bool false] 29 (0, 0))) ∧ (w.heap.size ≤ s_.1) ∧ (w.heap.size ≤ s_.1) ∧ (gb283 ≠ s_.1) ∧ (s_.1 ≠ gb283) ∧ (gb292 ≠ s_.1) ∧ (s_.1 ≠ gb292) ∧ (gb322 ≠ s_.1) ∧ (s_.1 ≠ gb322) ∧ (s_.2 ≠ s_.1) ∧ (s_.1 ≠ s_.2) ∧ (w.heap.size ≤ s_.2) ∧ (w.heap.size ≤ s_.2) ∧ (gb283 ≠ s_.2) ∧ (s_.2 ≠ gb283) ∧ (gb292 ≠ s_.2) ∧ (s_.2 ≠ gb292) ∧ (gb322 ≠ s_.2) ∧ (s_.2 ≠ gb322) ∧ (Below w.heap.size w w')) ?_ ?_
             rotate_left
             ·intro hJ2_5_6_7
              refine join_ (σ := Nat) 3 #[true, true, true, true, true, true, true, false, false, false] (fun s_ => [(54, .agg #[.int .i64 t323, .int .i64 t324, .int .i64 t325, .int .i64 t326, .bool t327, .bool t328, .bool t329, .bool t330]), (57, .agg #[.int .i64 t331, .int .i64 t332, .int .i64 t333, .int .i64 t334, .bool t335, .bool t336, .bool t337, .bool t338]), (8, .pointer (some ⟨s_, 0, none⟩))]) (fun s_ w' => (w'.cell? ⟨gb322, 0, none⟩ = some (.int .i64 t313) ∧ w'.cell? ⟨gb322, 1, none⟩ = some (.int .i64 t314) ∧ w'.cell? ⟨gb322, 2, none⟩ = some (.int .i64 t315) ∧ w'.cell? ⟨gb322, 3, none⟩ = some (.int .i64 t316) ∧ w'.cell? ⟨gb322, 4, none⟩ = some (.bool t317) ∧ w'.cell? ⟨gb322, 5, none⟩ = some (.bool t318) ∧ w'.cell? ⟨gb322, 6, none⟩ = some (.bool t319) ∧ w'.cell? ⟨gb322, 7, none⟩ = some (.bool t320)) ∧ (w'.heap[gb283]? = some (.cells #[.int .i64 t274, .int .i64 t275, .int .i64 t276, .int .i64 t277, .bool t278, .bool t279, .bool t280, .bool t281] 29 (0, 0))) ∧ (w'.heap[gb292]? = some (.cells #[.int .i64 t284, .int .i64 t285, .int .i64 t286, .int .i64 t287, .bool t288, .bool t289, .bool t290, .bool t291] 29 (0, 0))) ∧ (w'.heap[gb322]? = some (.cells #[.int .i64 t313, .int .i64 t314, .int .i64 t315, .int .i64 t316, .bool t317, .bool t318, .bool t319, .bool t320] 29 (0, 0))) ∧ (w'.heap[s_]? = some (.cells #[.int .i64 0, .int .i64 0, .int .i64 0, .int .i64 0, .bool false, .bool false, .bool false, .bool false] 29 (0, 0))) ∧ (w.heap.size ≤ s_) ∧ (w.heap.size ≤ s_) ∧ (gb283 ≠ s_) ∧ (s_ ≠ gb283) ∧ (gb292 ≠ s_) ∧ (s_ ≠ gb292) ∧ (gb322 ≠ s_) ∧ (s_ ≠ gb322) ∧ (Below w.heap.size w w')) ?_ ?_
              rotate_left
              ·intro hJ2_5_6
               refine join_ (σ := Nat) 3 #[true, true, true, true, true, true, false, true, false, false] (fun s_ => [(54, .agg #[.int .i64 t323, .int .i64 t324, .int .i64 t325, .int .i64 t326, .bool t327, .bool t328, .bool t329, .bool t330]), (57, .agg #[.int .i64 t331, .int .i64 t332, .int .i64 t333, .int .i64 t334, .bool t335, .bool t336, .bool t337, .bool t338]), (9, .pointer (some ⟨s_, 0, none⟩))]) (fun s_ w' => (w'.cell? ⟨gb322, 0, none⟩ = some (.int .i64 t313) ∧ w'.cell? ⟨gb322, 1, none⟩ = some (.int .i64 t314) ∧ w'.cell? ⟨gb322, 2, none⟩ = some (.int .i64 t315) ∧ w'.cell? ⟨gb322, 3, none⟩ = some (.int .i64 t316) ∧ w'.cell? ⟨gb322, 4, none⟩ = some (.bool t317) ∧ w'.cell? ⟨gb322, 5, none⟩ = some (.bool t318) ∧ w'.cell? ⟨gb322, 6, none⟩ = some (.bool t319) ∧ w'.cell? ⟨gb322, 7, none⟩ = some (.bool t320)) ∧ (w'.heap[gb283]? = some (.cells #[.int .i64 t274, .int .i64 t275, .int .i64 t276, .int .i64 t277, .bool t278, .bool t279, .bool t280, .bool t281] 29 (0, 0))) ∧ (w'.heap[gb292]? = some (.cells #[.int .i64 t284, .int .i64 t285, .int .i64 t286, .int .i64 t287, .bool t288, .bool t289, .bool t290, .bool t291] 29 (0, 0))) ∧ (w'.heap[gb322]? = some (.cells #[.int .i64 t313, .int .i64 t314, .int .i64 t315, .int .i64 t316, .bool t317, .bool t318, .bool t319, .bool t320] 29 (0, 0))) ∧ (w'.heap[s_]? = some (.cells #[.int .i64 0, .int .i64 0, .int .i64 0, .int .i64 0, .bool false, .bool false, .bool false, .bool false] 29 (0, 0))) ∧ (w.heap.size ≤ s_) ∧ (w.heap.size ≤ s_) ∧ (gb283 ≠ s_) ∧ (s_ ≠ gb283) ∧ (gb292 ≠ s_) ∧ (s_ ≠ gb292) ∧ (gb322 ≠ s_) ∧ (s_ ≠ gb322) ∧ (Below w.heap.size w w')) ?_ ?_
               rotate_left
               ·intro hJ2_5_7
                refine join_ (σ := Nat × Nat) 3 #[true, true, true, true, true, false, true, true, false, false] (fun s_ => [(54, .agg #[.int .i64 t323, .int .i64 t324, .int .i64 t325, .int .i64 t326, .bool t327, .bool t328, .bool t329, .bool t330]), (8, .pointer (some ⟨s_.1, 0, none⟩)), (9, .pointer (some ⟨s_.2, 0, none⟩))]) (fun s_ w' => (w'.cell? ⟨gb322, 0, none⟩ = some (.int .i64 t313) ∧ w'.cell? ⟨gb322, 1, none⟩ = some (.int .i64 t314) ∧ w'.cell? ⟨gb322, 2, none⟩ = some (.int .i64 t315) ∧ w'.cell? ⟨gb322, 3, none⟩ = some (.int .i64 t316) ∧ w'.cell? ⟨gb322, 4, none⟩ = some (.bool t317) ∧ w'.cell? ⟨gb322, 5, none⟩ = some (.bool t318) ∧ w'.cell? ⟨gb322, 6, none⟩ = some (.bool t319) ∧ w'.cell? ⟨gb322, 7, none⟩ = some (.bool t320)) ∧ (w'.heap[gb283]? = some (.cells #[.int .i64 t274, .int .i64 t275, .int .i64 t276, .int .i64 t277, .bool t278, .bool t279, .bool t280, .bool t281] 29 (0, 0))) ∧ (w'.heap[gb292]? = some (.cells #[.int .i64 t284, .int .i64 t285, .int .i64 t286, .int .i64 t287, .bool t288, .bool t289, .bool t290, .bool t291] 29 (0, 0))) ∧ (w'.heap[gb322]? = some (.cells #[.int .i64 t313, .int .i64 t314, .int .i64 t315, .int .i64 t316, .bool t317, .bool t318, .bool t319, .bool t320] 29 (0, 0))) ∧ (w'.heap[s_.1]? = some (.cells #[.int .i64 0, .int .i64 0, .int .i64 0, .int .i64 0, .bool false, .bool false, .bool false, .bool false] 29 (0, 0))) ∧ (w'.heap[s_.2]? = some (.cells #[.int .i64 0, .int .i64 0, .int .i64 0, .int .i64 0, .bool false, .bool false, .bool false, .bool false] 29 (0, 0))) ∧ (w.heap.size ≤ s_.1) ∧ (w.heap.size ≤ s_.1) ∧ (gb283 ≠ s_.1) ∧ (s_.1 ≠ gb283) ∧ (gb292 ≠ s_.1) ∧ (s_.1 ≠ gb292) ∧ (gb322 ≠ s_.1) ∧ (s_.1 ≠ gb322) ∧ (s_.2 ≠ s_.1) ∧ (s_.1 ≠ s_.2) ∧ (w.heap.size ≤ s_.2) ∧ (w.heap.size ≤ s_.2) ∧ (gb283 ≠ s_.2) ∧ (s_.2 ≠ gb283) ∧ (gb292 ≠ s_.2) ∧ (s_.2 ≠ gb292) ∧ (gb322 ≠ s_.2) ∧ (s_.2 ≠ gb322) ∧ (Below w.heap.size w w')) ?_ ?_
                rotate_left
                ·intro hJ2_6_7
                 refine join_ (σ := Unit) 4 #[true, true, true, true, true, true, false, false, false, false] (fun s_ => [(54, .agg #[.int .i64 t323, .int .i64 t324, .int .i64 t325, .int .i64 t326, .bool t327, .bool t328, .bool t329, .bool t330]), (57, .agg #[.int .i64 t331, .int .i64 t332, .int .i64 t333, .int .i64 t334, .bool t335, .bool t336, .bool t337, .bool t338])]) (fun s_ w' => (w'.cell? ⟨gb322, 0, none⟩ = some (.int .i64 t313) ∧ w'.cell? ⟨gb322, 1, none⟩ = some (.int .i64 t314) ∧ w'.cell? ⟨gb322, 2, none⟩ = some (.int .i64 t315) ∧ w'.cell? ⟨gb322, 3, none⟩ = some (.int .i64 t316) ∧ w'.cell? ⟨gb322, 4, none⟩ = some (.bool t317) ∧ w'.cell? ⟨gb322, 5, none⟩ = some (.bool t318) ∧ w'.cell? ⟨gb322, 6, none⟩ = some (.bool t319) ∧ w'.cell? ⟨gb322, 7, none⟩ = some (.bool t320)) ∧ (w'.heap[gb283]? = some (.cells #[.int .i64 t274, .int .i64 t275, .int .i64 t276, .int .i64 t277, .bool t278, .bool t279, .bool t280, .bool t281] 29 (0, 0))) ∧ (w'.heap[gb292]? = some (.cells #[.int .i64 t284, .int .i64 t285, .int .i64 t286, .int .i64 t287, .bool t288, .bool t289, .bool t290, .bool t291] 29 (0, 0))) ∧ (w'.heap[gb322]? = some (.cells #[.int .i64 t313, .int .i64 t314, .int .i64 t315, .int .i64 t316, .bool t317, .bool t318, .bool t319, .bool t320] 29 (0, 0))) ∧ (Below w.heap.size w w')) ?_ ?_
                 rotate_left
                 ·intro hJ2_5
                  refine join_ (σ := Nat) 4 #[true, true, true, true, true, false, true, false, false, false] (fun s_ => [(54, .agg #[.int .i64 t323, .int .i64 t324, .int .i64 t325, .int .i64 t326, .bool t327, .bool t328, .bool t329, .bool t330]), (8, .pointer (some ⟨s_, 0, none⟩))]) (fun s_ w' => (w'.cell? ⟨gb322, 0, none⟩ = some (.int .i64 t313) ∧ w'.cell? ⟨gb322, 1, none⟩ = some (.int .i64 t314) ∧ w'.cell? ⟨gb322, 2, none⟩ = some (.int .i64 t315) ∧ w'.cell? ⟨gb322, 3, none⟩ = some (.int .i64 t316) ∧ w'.cell? ⟨gb322, 4, none⟩ = some (.bool t317) ∧ w'.cell? ⟨gb322, 5, none⟩ = some (.bool t318) ∧ w'.cell? ⟨gb322, 6, none⟩ = some (.bool t319) ∧ w'.cell? ⟨gb322, 7, none⟩ = some (.bool t320)) ∧ (w'.heap[gb283]? = some (.cells #[.int .i64 t274, .int .i64 t275, .int .i64 t276, .int .i64 t277, .bool t278, .bool t279, .bool t280, .bool t281] 29 (0, 0))) ∧ (w'.heap[gb292]? = some (.cells #[.int .i64 t284, .int .i64 t285, .int .i64 t286, .int .i64 t287, .bool t288, .bool t289, .bool t290, .bool t291] 29 (0, 0))) ∧ (w'.heap[gb322]? = some (.cells #[.int .i64 t313, .int .i64 t314, .int .i64 t315, .int .i64 t316, .bool t317, .bool t318, .bool t319, .bool t320] 29 (0, 0))) ∧ (w'.heap[s_]? = some (.cells #[.int .i64 0, .int .i64 0, .int .i64 0, .int .i64 0, .bool false, .bool false, .bool false, .bool false] 29 (0, 0))) ∧ (w.heap.size ≤ s_) ∧ (w.heap.size ≤ s_) ∧ (gb283 ≠ s_) ∧ (s_ ≠ gb283) ∧ (gb292 ≠ s_) ∧ (s_ ≠ gb292) ∧ (gb322 ≠ s_) ∧ (s_ ≠ gb322) ∧ (Below w.heap.size w w')) ?_ ?_
                  rotate_left
                  ·intro hJ2_6
                   refine join_ (σ := Nat) 4 #[true, true, true, true, true, false, false, true, false, false] (fun s_ => [(54, .agg #[.int .i64 t323, .int .i64 t324, .int .i64 t325, .int .i64 t326, .bool t327, .bool t328, .bool t329, .bool t330]), (9, .pointer (some ⟨s_, 0, none⟩))]) (fun s_ w' => (w'.cell? ⟨gb322, 0, none⟩ = some (.int .i64 t313) ∧ w'.cell? ⟨gb322, 1, none⟩ = some (.int .i64 t314) ∧ w'.cell? ⟨gb322, 2, none⟩ = some (.int .i64 t315) ∧ w'.cell? ⟨gb322, 3, none⟩ = some (.int .i64 t316) ∧ w'.cell? ⟨gb322, 4, none⟩ = some (.bool t317) ∧ w'.cell? ⟨gb322, 5, none⟩ = some (.bool t318) ∧ w'.cell? ⟨gb322, 6, none⟩ = some (.bool t319) ∧ w'.cell? ⟨gb322, 7, none⟩ = some (.bool t320)) ∧ (w'.heap[gb283]? = some (.cells #[.int .i64 t274, .int .i64 t275, .int .i64 t276, .int .i64 t277, .bool t278, .bool t279, .bool t280, .bool t281] 29 (0, 0))) ∧ (w'.heap[gb292]? = some (.cells #[.int .i64 t284, .int .i64 t285, .int .i64 t286, .int .i64 t287, .bool t288, .bool t289, .bool t290, .bool t291] 29 (0, 0))) ∧ (w'.heap[gb322]? = some (.cells #[.int .i64 t313, .int .i64 t314, .int .i64 t315, .int .i64 t316, .bool t317, .bool t318, .bool t319, .bool t320] 29 (0, 0))) ∧ (w'.heap[s_]? = some (.cells #[.int .i64 0, .int .i64 0, .int .i64 0, .int .i64 0, .bool false, .bool false, .bool false, .bool false] 29 (0, 0))) ∧ (w.heap.size ≤ s_) ∧ (w.heap.size ≤ s_) ∧ (gb283 ≠ s_) ∧ (s_ ≠ gb283) ∧ (gb292 ≠ s_) ∧ (s_ ≠ gb292) ∧ (gb322 ≠ s_) ∧ (s_ ≠ gb322) ∧ (Below w.heap.size w w')) ?_ ?_
                   rotate_left
                   ·intro hJ2_7
                    refine join_ (σ := Nat × Nat) 4 #[true, true, false, true, true, false, true, true, false, false] (fun s_ => [(8, .pointer (some ⟨s_.1, 0, none⟩)), (9, .pointer (some ⟨s_.2, 0, none⟩))]) (fun s_ w' => (w'.cell? ⟨gb322, 0, none⟩ = some (.int .i64 t313) ∧ w'.cell? ⟨gb322, 1, none⟩ = some (.int .i64 t314) ∧ w'.cell? ⟨gb322, 2, none⟩ = some (.int .i64 t315) ∧ w'.cell? ⟨gb322, 3, none⟩ = some (.int .i64 t316) ∧ w'.cell? ⟨gb322, 4, none⟩ = some (.bool t317) ∧ w'.cell? ⟨gb322, 5, none⟩ = some (.bool t318) ∧ w'.cell? ⟨gb322, 6, none⟩ = some (.bool t319) ∧ w'.cell? ⟨gb322, 7, none⟩ = some (.bool t320)) ∧ (w'.heap[gb283]? = some (.cells #[.int .i64 t274, .int .i64 t275, .int .i64 t276, .int .i64 t277, .bool t278, .bool t279, .bool t280, .bool t281] 29 (0, 0))) ∧ (w'.heap[gb292]? = some (.cells #[.int .i64 t284, .int .i64 t285, .int .i64 t286, .int .i64 t287, .bool t288, .bool t289, .bool t290, .bool t291] 29 (0, 0))) ∧ (w'.heap[gb322]? = some (.cells #[.int .i64 t313, .int .i64 t314, .int .i64 t315, .int .i64 t316, .bool t317, .bool t318, .bool t319, .bool t320] 29 (0, 0))) ∧ (w'.heap[s_.1]? = some (.cells #[.int .i64 0, .int .i64 0, .int .i64 0, .int .i64 0, .bool false, .bool false, .bool false, .bool false] 29 (0, 0))) ∧ (w'.heap[s_.2]? = some (.cells #[.int .i64 0, .int .i64 0, .int .i64 0, .int .i64 0, .bool false, .bool false, .bool false, .bool false] 29 (0, 0))) ∧ (w.heap.size ≤ s_.1) ∧ (w.heap.size ≤ s_.1) ∧ (gb283 ≠ s_.1) ∧ (s_.1 ≠ gb283) ∧ (gb292 ≠ s_.1) ∧ (s_.1 ≠ gb292) ∧ (gb322 ≠ s_.1) ∧ (s_.1 ≠ gb322) ∧ (s_.2 ≠ s_.1) ∧ (s_.1 ≠ s_.2) ∧ (w.heap.size ≤ s_.2) ∧ (w.heap.size ≤ s_.2) ∧ (gb283 ≠ s_.2) ∧ (s_.2 ≠ gb283) ∧ (gb292 ≠ s_.2) ∧ (s_.2 ≠ gb292) ∧ (gb322 ≠ s_.2) ∧ (s_.2 ≠ gb322) ∧ (Below w.heap.size w w')) ?_ ?_
                    rotate_left
                    ·intro hJ6_7
                     refine join_ (σ := Unit) 5 #[true, true, true, true, true, false, false, false, false, false] (fun s_ => [(54, .agg #[.int .i64 t323, .int .i64 t324, .int .i64 t325, .int .i64 t326, .bool t327, .bool t328, .bool t329, .bool t330])]) (fun s_ w' => (w'.cell? ⟨gb322, 0, none⟩ = some (.int .i64 t313) ∧ w'.cell? ⟨gb322, 1, none⟩ = some (.int .i64 t314) ∧ w'.cell? ⟨gb322, 2, none⟩ = some (.int .i64 t315) ∧ w'.cell? ⟨gb322, 3, none⟩ = some (.int .i64 t316) ∧ w'.cell? ⟨gb322, 4, none⟩ = some (.bool t317) ∧ w'.cell? ⟨gb322, 5, none⟩ = some (.bool t318) ∧ w'.cell? ⟨gb322, 6, none⟩ = some (.bool t319) ∧ w'.cell? ⟨gb322, 7, none⟩ = some (.bool t320)) ∧ (w'.heap[gb283]? = some (.cells #[.int .i64 t274, .int .i64 t275, .int .i64 t276, .int .i64 t277, .bool t278, .bool t279, .bool t280, .bool t281] 29 (0, 0))) ∧ (w'.heap[gb292]? = some (.cells #[.int .i64 t284, .int .i64 t285, .int .i64 t286, .int .i64 t287, .bool t288, .bool t289, .bool t290, .bool t291] 29 (0, 0))) ∧ (w'.heap[gb322]? = some (.cells #[.int .i64 t313, .int .i64 t314, .int .i64 t315, .int .i64 t316, .bool t317, .bool t318, .bool t319, .bool t320] 29 (0, 0))) ∧ (Below w.heap.size w w')) ?_ ?_
                     rotate_left
                     ·intro hJ2
                      refine join_ (σ := Nat) 5 #[true, true, false, true, true, false, true, false, false, false] (fun s_ => [(8, .pointer (some ⟨s_, 0, none⟩))]) (fun s_ w' => (w'.cell? ⟨gb322, 0, none⟩ = some (.int .i64 t313) ∧ w'.cell? ⟨gb322, 1, none⟩ = some (.int .i64 t314) ∧ w'.cell? ⟨gb322, 2, none⟩ = some (.int .i64 t315) ∧ w'.cell? ⟨gb322, 3, none⟩ = some (.int .i64 t316) ∧ w'.cell? ⟨gb322, 4, none⟩ = some (.bool t317) ∧ w'.cell? ⟨gb322, 5, none⟩ = some (.bool t318) ∧ w'.cell? ⟨gb322, 6, none⟩ = some (.bool t319) ∧ w'.cell? ⟨gb322, 7, none⟩ = some (.bool t320)) ∧ (w'.heap[gb283]? = some (.cells #[.int .i64 t274, .int .i64 t275, .int .i64 t276, .int .i64 t277, .bool t278, .bool t279, .bool t280, .bool t281] 29 (0, 0))) ∧ (w'.heap[gb292]? = some (.cells #[.int .i64 t284, .int .i64 t285, .int .i64 t286, .int .i64 t287, .bool t288, .bool t289, .bool t290, .bool t291] 29 (0, 0))) ∧ (w'.heap[gb322]? = some (.cells #[.int .i64 t313, .int .i64 t314, .int .i64 t315, .int .i64 t316, .bool t317, .bool t318, .bool t319, .bool t320] 29 (0, 0))) ∧ (w'.heap[s_]? = some (.cells #[.int .i64 0, .int .i64 0, .int .i64 0, .int .i64 0, .bool false, .bool false, .bool false, .bool false] 29 (0, 0))) ∧ (w.heap.size ≤ s_) ∧ (w.heap.size ≤ s_) ∧ (gb283 ≠ s_) ∧ (s_ ≠ gb283) ∧ (gb292 ≠ s_) ∧ (s_ ≠ gb292) ∧ (gb322 ≠ s_) ∧ (s_ ≠ gb322) ∧ (Below w.heap.size w w')) ?_ ?_
                      rotate_left
                      ·intro hJ6
                       refine join_ (σ := Nat) 5 #[true, true, false, true, true, false, false, true, false, false] (fun s_ => [(9, .pointer (some ⟨s_, 0, none⟩))]) (fun s_ w' => (w'.cell? ⟨gb322, 0, none⟩ = some (.int .i64 t313) ∧ w'.cell? ⟨gb322, 1, none⟩ = some (.int .i64 t314) ∧ w'.cell? ⟨gb322, 2, none⟩ = some (.int .i64 t315) ∧ w'.cell? ⟨gb322, 3, none⟩ = some (.int .i64 t316) ∧ w'.cell? ⟨gb322, 4, none⟩ = some (.bool t317) ∧ w'.cell? ⟨gb322, 5, none⟩ = some (.bool t318) ∧ w'.cell? ⟨gb322, 6, none⟩ = some (.bool t319) ∧ w'.cell? ⟨gb322, 7, none⟩ = some (.bool t320)) ∧ (w'.heap[gb283]? = some (.cells #[.int .i64 t274, .int .i64 t275, .int .i64 t276, .int .i64 t277, .bool t278, .bool t279, .bool t280, .bool t281] 29 (0, 0))) ∧ (w'.heap[gb292]? = some (.cells #[.int .i64 t284, .int .i64 t285, .int .i64 t286, .int .i64 t287, .bool t288, .bool t289, .bool t290, .bool t291] 29 (0, 0))) ∧ (w'.heap[gb322]? = some (.cells #[.int .i64 t313, .int .i64 t314, .int .i64 t315, .int .i64 t316, .bool t317, .bool t318, .bool t319, .bool t320] 29 (0, 0))) ∧ (w'.heap[s_]? = some (.cells #[.int .i64 0, .int .i64 0, .int .i64 0, .int .i64 0, .bool false, .bool false, .bool false, .bool false] 29 (0, 0))) ∧ (w.heap.size ≤ s_) ∧ (w.heap.size ≤ s_) ∧ (gb283 ≠ s_) ∧ (s_ ≠ gb283) ∧ (gb292 ≠ s_) ∧ (s_ ≠ gb292) ∧ (gb322 ≠ s_) ∧ (s_ ≠ gb322) ∧ (Below w.heap.size w w')) ?_ ?_
                       rotate_left
                       ·intro hJ7
                        refine three_ (i := 2) (j := 6) (k := 7) (Ni := some 54) (Nj := some 8) (Nk := some 9) #[true, true, true, true, true, false, false, false, false, false] #[true, true, false, true, true, false, true, false, false, false] #[true, true, false, true, true, false, false, true, false, false] rfl rfl rfl rfl rfl rfl (three_of HT_.out (by kernel_rfl)) (by decide) (by decide) (by decide) (fun K hK => ?_) (fun K hK => ?_) (fun K hK => ?_)
                        ·skip
                         refine goes_ Try.func31 (by kernel_rfl) rfl #[.agg #[.int .i64 t313, .int .i64 t314, .int .i64 t315, .int .i64 t316, .bool t317, .bool t318, .bool t319, .bool t320], .int .i64 t321] (by rfl) rfl rfl (by (try simp only [List.map_toArray, List.map_cons, List.map_nil]); first | done | rfl | (simp only [List.length_drop, List.length_take]; rfl)) ?_
                         with_reducible refine (impl_SetA.calls t313 t314 t315 t316 t317 t318 t319 t320 t321 t323 t324 t325 t326 t327 t328 t329 t330 _ A46.out).mono ?_
                         rintro e w65 ⟨rfl, hb⟩
                         refine ⟨_, rfl, ?_⟩
                         have n0_ := Aside0.mk (blk_below (g := gb283) (o := .cells #[.int .i64 t274, .int .i64 t275, .int .i64 t276, .int .i64 t277, .bool t278, .bool t279, .bool t280, .bool t281] 29 (0, 0)) (kb BK283.out) hb)
                         have n1_ := Aside0.mk (blk_below (g := gb292) (o := .cells #[.int .i64 t284, .int .i64 t285, .int .i64 t286, .int .i64 t287, .bool t288, .bool t289, .bool t290, .bool t291] 29 (0, 0)) (kb BK292.out) hb)
                         have n2_ := Aside0.mk (blk_below (g := gb322) (o := .cells #[.int .i64 t313, .int .i64 t314, .int .i64 t315, .int .i64 t316, .bool t317, .bool t318, .bool t319, .bool t320] 29 (0, 0)) (kb BK322.out) hb)
                         have n3_ := Aside0.mk (below_step (bw HB.out) hb)
                         clear BK283; clear BK292; clear BK322; clear HB; have BK283 := n0_; have BK292 := n1_; have BK322 := n2_; have HB := n3_; clear n0_ n1_ n2_ n3_; (try clear hb); (try clear hb2); (try clear hk); (try clear hi)
                         refine hK.out _ _ ⟨cl BK322 0, cl BK322 1, cl BK322 2, cl BK322 3, cl BK322 4, cl BK322 5, cl BK322 6, cl BK322 7⟩ (fun hHeld => ?_)
                         clear hK K
                         refine norm_ (a' := ?_) ?_ ?_
                         rotate_left
                         ·show Act.put _ (some 54) _ = _
                          simp only [Act.put, List.setIfInBounds_toArray, List.set_cons_zero, List.set_cons_succ, i64_w, i32_w]
                          rfl
                         exact norm_ (by first | (simp only [putAll, Act.put, List.setIfInBounds_toArray, List.set_cons_zero, List.set_cons_succ]; done) | (simp only [putAll, Act.put, List.setIfInBounds_toArray, List.set_cons_zero, List.set_cons_succ]; rfl)) (hJ2 () _ ⟨hHeld, (kb BK283.out), (kb BK292.out), (kb BK322.out), (bw HB.out)⟩)
                        ·skip
                         refine box_step ?hg (N := 8) ?hd (cs := #[.int .i64 0, .int .i64 0, .int .i64 0, .int .i64 0, .bool false, .bool false, .bool false, .bool false]) (t := 29) ?hr ?_; (case hd => rfl); (case hg => rfl); (case hr => first | (go_simp; done) | (go_simp; rfl))
                         intro gb339 hg w65 hbox hb
                         have n0_ := Aside0.mk (blk_below (g := gb283) (o := .cells #[.int .i64 t274, .int .i64 t275, .int .i64 t276, .int .i64 t277, .bool t278, .bool t279, .bool t280, .bool t281] 29 (0, 0)) (kb BK283.out) hb)
                         have n1_ := Aside0.mk (blk_below (g := gb292) (o := .cells #[.int .i64 t284, .int .i64 t285, .int .i64 t286, .int .i64 t287, .bool t288, .bool t289, .bool t290, .bool t291] 29 (0, 0)) (kb BK292.out) hb)
                         have n2_ := Aside0.mk (blk_below (g := gb322) (o := .cells #[.int .i64 t313, .int .i64 t314, .int .i64 t315, .int .i64 t316, .bool t317, .bool t318, .bool t319, .bool t320] 29 (0, 0)) (kb BK322.out) hb)
                         have n3_ := Aside0.mk (below_step (bw HB.out) hb)
                         have n4_ := Aside0.mk (hbox)
                         have n5_ := Aside0.mk ((gs hg (bw HB.out)))
                         have n6_ := Aside0.mk ((gs hg (bw HB.out)))
                         have n7_ := Aside0.mk ((ga hg BK283.out))
                         have n8_ := Aside0.mk ((gc hg BK283.out))
                         have n9_ := Aside0.mk ((ga hg BK292.out))
                         have n10_ := Aside0.mk ((gc hg BK292.out))
                         have n11_ := Aside0.mk ((ga hg BK322.out))
                         have n12_ := Aside0.mk ((gc hg BK322.out))
                         clear BK283; clear BK292; clear BK322; clear HB; have BK283 := n0_; have BK292 := n1_; have BK322 := n2_; have HB := n3_; have BK339 := n4_; have GW339 := n5_; have GE339 := n6_; have NB283_339 := n7_; have NB339_283 := n8_; have NB292_339 := n9_; have NB339_292 := n10_; have NB322_339 := n11_; have NB339_322 := n12_; clear n0_ n1_ n2_ n3_ n4_ n5_ n6_ n7_ n8_ n9_ n10_ n11_ n12_; clear hb hbox hg
                         refine hK.out _ _ ⟨cl BK322 0, cl BK322 1, cl BK322 2, cl BK322 3, cl BK322 4, cl BK322 5, cl BK322 6, cl BK322 7⟩ (fun hHeld => ?_)
                         clear hK K
                         refine norm_ (a' := ?_) ?_ ?_
                         rotate_left
                         ·show Act.put _ (some 8) _ = _
                          simp only [Act.put, List.setIfInBounds_toArray, List.set_cons_zero, List.set_cons_succ, i64_w, i32_w]
                          rfl
                         exact norm_ (by first | (simp only [putAll, Act.put, List.setIfInBounds_toArray, List.set_cons_zero, List.set_cons_succ]; done) | (simp only [putAll, Act.put, List.setIfInBounds_toArray, List.set_cons_zero, List.set_cons_succ]; rfl)) (hJ6 (gb339) _ ⟨hHeld, (kb BK283.out), (kb BK292.out), (kb BK322.out), (kb BK339.out), GW339.out, GE339.out, NB283_339.out, NB339_283.out, NB292_339.out, NB339_292.out, NB322_339.out, NB339_322.out, (bw HB.out)⟩)
                        ·skip
                         refine box_step ?hg (N := 9) ?hd (cs := #[.int .i64 0, .int .i64 0, .int .i64 0, .int .i64 0, .bool false, .bool false, .bool false, .bool false]) (t := 29) ?hr ?_; (case hd => rfl); (case hg => rfl); (case hr => first | (go_simp; done) | (go_simp; rfl))
                         intro gb340 hg w65 hbox hb
                         have n0_ := Aside0.mk (blk_below (g := gb283) (o := .cells #[.int .i64 t274, .int .i64 t275, .int .i64 t276, .int .i64 t277, .bool t278, .bool t279, .bool t280, .bool t281] 29 (0, 0)) (kb BK283.out) hb)
                         have n1_ := Aside0.mk (blk_below (g := gb292) (o := .cells #[.int .i64 t284, .int .i64 t285, .int .i64 t286, .int .i64 t287, .bool t288, .bool t289, .bool t290, .bool t291] 29 (0, 0)) (kb BK292.out) hb)
                         have n2_ := Aside0.mk (blk_below (g := gb322) (o := .cells #[.int .i64 t313, .int .i64 t314, .int .i64 t315, .int .i64 t316, .bool t317, .bool t318, .bool t319, .bool t320] 29 (0, 0)) (kb BK322.out) hb)
                         have n3_ := Aside0.mk (below_step (bw HB.out) hb)
                         have n4_ := Aside0.mk (hbox)
                         have n5_ := Aside0.mk ((gs hg (bw HB.out)))
                         have n6_ := Aside0.mk ((gs hg (bw HB.out)))
                         have n7_ := Aside0.mk ((ga hg BK283.out))
                         have n8_ := Aside0.mk ((gc hg BK283.out))
                         have n9_ := Aside0.mk ((ga hg BK292.out))
                         have n10_ := Aside0.mk ((gc hg BK292.out))
                         have n11_ := Aside0.mk ((ga hg BK322.out))
                         have n12_ := Aside0.mk ((gc hg BK322.out))
                         clear BK283; clear BK292; clear BK322; clear HB; have BK283 := n0_; have BK292 := n1_; have BK322 := n2_; have HB := n3_; have BK340 := n4_; have GW340 := n5_; have GE340 := n6_; have NB283_340 := n7_; have NB340_283 := n8_; have NB292_340 := n9_; have NB340_292 := n10_; have NB322_340 := n11_; have NB340_322 := n12_; clear n0_ n1_ n2_ n3_ n4_ n5_ n6_ n7_ n8_ n9_ n10_ n11_ n12_; clear hb hbox hg
                         refine hK.out _ _ ⟨cl BK322 0, cl BK322 1, cl BK322 2, cl BK322 3, cl BK322 4, cl BK322 5, cl BK322 6, cl BK322 7⟩ (fun hHeld => ?_)
                         clear hK K
                         refine norm_ (a' := ?_) ?_ ?_
                         rotate_left
                         ·show Act.put _ (some 9) _ = _
                          simp only [Act.put, List.setIfInBounds_toArray, List.set_cons_zero, List.set_cons_succ, i64_w, i32_w]
                          rfl
                         exact norm_ (by first | (simp only [putAll, Act.put, List.setIfInBounds_toArray, List.set_cons_zero, List.set_cons_succ]; done) | (simp only [putAll, Act.put, List.setIfInBounds_toArray, List.set_cons_zero, List.set_cons_succ]; rfl)) (hJ7 (gb340) _ ⟨hHeld, (kb BK283.out), (kb BK292.out), (kb BK322.out), (kb BK340.out), GW340.out, GE340.out, NB283_340.out, NB340_283.out, NB292_340.out, NB340_292.out, NB322_340.out, NB340_322.out, (bw HB.out)⟩)
                       ·skip
                        rintro gb340 w66 ⟨hS_, h0_, h1_, h2_, h3_, h4_, h5_, h6_, h7_, h8_, h9_, h10_, h11_, h12_⟩
                        have n0_ : Aside0 (w66.heap[gb283]? = some (.cells #[.int .i64 t274, .int .i64 t275, .int .i64 t276, .int .i64 t277, .bool t278, .bool t279, .bool t280, .bool t281] 29 (0, 0))) := ⟨h0_⟩
                        have n1_ : Aside0 (w66.heap[gb292]? = some (.cells #[.int .i64 t284, .int .i64 t285, .int .i64 t286, .int .i64 t287, .bool t288, .bool t289, .bool t290, .bool t291] 29 (0, 0))) := ⟨h1_⟩
                        have n2_ : Aside0 (w66.heap[gb322]? = some (.cells #[.int .i64 t313, .int .i64 t314, .int .i64 t315, .int .i64 t316, .bool t317, .bool t318, .bool t319, .bool t320] 29 (0, 0))) := ⟨h2_⟩
                        have n3_ : Aside0 (w66.heap[gb340]? = some (.cells #[.int .i64 0, .int .i64 0, .int .i64 0, .int .i64 0, .bool false, .bool false, .bool false, .bool false] 29 (0, 0))) := ⟨h3_⟩
                        have n4_ : Aside0 (w.heap.size ≤ gb340) := ⟨h4_⟩
                        have n5_ : Aside0 (w.heap.size ≤ gb340) := ⟨h5_⟩
                        have n6_ : Aside0 (gb283 ≠ gb340) := ⟨h6_⟩
                        have n7_ : Aside0 (gb340 ≠ gb283) := ⟨h7_⟩
                        have n8_ : Aside0 (gb292 ≠ gb340) := ⟨h8_⟩
                        have n9_ : Aside0 (gb340 ≠ gb292) := ⟨h9_⟩
                        have n10_ : Aside0 (gb322 ≠ gb340) := ⟨h10_⟩
                        have n11_ : Aside0 (gb340 ≠ gb322) := ⟨h11_⟩
                        have n12_ : Aside0 (Below w.heap.size w w66) := ⟨h12_⟩
                        clear BK283; clear BK292; clear BK322; clear HB; clear h0_ h1_ h2_ h3_ h4_ h5_ h6_ h7_ h8_ h9_ h10_ h11_ h12_; have BK283 := n0_; have BK292 := n1_; have BK322 := n2_; have BK340 := n3_; have GW340 := n4_; have GE340 := n5_; have NB283_340 := n6_; have NB340_283 := n7_; have NB292_340 := n8_; have NB340_292 := n9_; have NB322_340 := n10_; have NB340_322 := n11_; have HB := n12_; clear n0_ n1_ n2_ n3_ n4_ n5_ n6_ n7_ n8_ n9_ n10_ n11_ n12_
                        have hHeld : w66.cell? ⟨gb322, 0, none⟩ = some (.int .i64 t313) ∧ w66.cell? ⟨gb322, 1, none⟩ = some (.int .i64 t314) ∧ w66.cell? ⟨gb322, 2, none⟩ = some (.int .i64 t315) ∧ w66.cell? ⟨gb322, 3, none⟩ = some (.int .i64 t316) ∧ w66.cell? ⟨gb322, 4, none⟩ = some (.bool t317) ∧ w66.cell? ⟨gb322, 5, none⟩ = some (.bool t318) ∧ w66.cell? ⟨gb322, 6, none⟩ = some (.bool t319) ∧ w66.cell? ⟨gb322, 7, none⟩ = some (.bool t320) := hS_
                        refine norm_ (a' := ?_) ?_ ?_
                        rotate_left
                        ·simp only [putAll, Act.put, List.setIfInBounds_toArray, List.set_cons_zero, List.set_cons_succ]
                         rfl
                        refine two_ (i := 2) (j := 6) (Ni := some 54) (Nj := some 8) #[true, true, true, true, true, false, false, true, false, false] #[true, true, false, true, true, false, true, true, false, false] rfl rfl rfl rfl (two_of HT_.out (by kernel_rfl)) (by decide) (by decide) (fun K hK => ?_) (fun K hK => ?_)
                        ·skip
                         refine goes_ Try.func31 (by kernel_rfl) rfl #[.agg #[.int .i64 t313, .int .i64 t314, .int .i64 t315, .int .i64 t316, .bool t317, .bool t318, .bool t319, .bool t320], .int .i64 t321] (by rfl) rfl rfl (by (try simp only [List.map_toArray, List.map_cons, List.map_nil]); first | done | rfl | (simp only [List.length_drop, List.length_take]; rfl)) ?_
                         with_reducible refine (impl_SetA.calls t313 t314 t315 t316 t317 t318 t319 t320 t321 t323 t324 t325 t326 t327 t328 t329 t330 _ A46.out).mono ?_
                         rintro e w67 ⟨rfl, hb⟩
                         refine ⟨_, rfl, ?_⟩
                         have n0_ := Aside0.mk (blk_below (g := gb283) (o := .cells #[.int .i64 t274, .int .i64 t275, .int .i64 t276, .int .i64 t277, .bool t278, .bool t279, .bool t280, .bool t281] 29 (0, 0)) (kb BK283.out) hb)
                         have n1_ := Aside0.mk (blk_below (g := gb292) (o := .cells #[.int .i64 t284, .int .i64 t285, .int .i64 t286, .int .i64 t287, .bool t288, .bool t289, .bool t290, .bool t291] 29 (0, 0)) (kb BK292.out) hb)
                         have n2_ := Aside0.mk (blk_below (g := gb322) (o := .cells #[.int .i64 t313, .int .i64 t314, .int .i64 t315, .int .i64 t316, .bool t317, .bool t318, .bool t319, .bool t320] 29 (0, 0)) (kb BK322.out) hb)
                         have n3_ := Aside0.mk (blk_below (g := gb340) (o := .cells #[.int .i64 0, .int .i64 0, .int .i64 0, .int .i64 0, .bool false, .bool false, .bool false, .bool false] 29 (0, 0)) (kb BK340.out) hb)
                         have n4_ := Aside0.mk (below_step (bw HB.out) hb)
                         clear BK283; clear BK292; clear BK322; clear BK340; clear HB; have BK283 := n0_; have BK292 := n1_; have BK322 := n2_; have BK340 := n3_; have HB := n4_; clear n0_ n1_ n2_ n3_ n4_; (try clear hb); (try clear hb2); (try clear hk); (try clear hi)
                         refine hK.out _ _ ⟨cl BK322 0, cl BK322 1, cl BK322 2, cl BK322 3, cl BK322 4, cl BK322 5, cl BK322 6, cl BK322 7⟩ (fun hHeld => ?_)
                         clear hK K
                         refine norm_ (a' := ?_) ?_ ?_
                         rotate_left
                         ·show Act.put _ (some 54) _ = _
                          simp only [Act.put, List.setIfInBounds_toArray, List.set_cons_zero, List.set_cons_succ, i64_w, i32_w]
                          rfl
                         exact norm_ (by first | (simp only [putAll, Act.put, List.setIfInBounds_toArray, List.set_cons_zero, List.set_cons_succ]; done) | (simp only [putAll, Act.put, List.setIfInBounds_toArray, List.set_cons_zero, List.set_cons_succ]; rfl)) (hJ2_7 (gb340) _ ⟨hHeld, (kb BK283.out), (kb BK292.out), (kb BK322.out), (kb BK340.out), GW340.out, GE340.out, NB283_340.out, NB340_283.out, NB292_340.out, NB340_292.out, NB322_340.out, NB340_322.out, (bw HB.out)⟩)
                        ·skip
                         refine box_step ?hg (N := 8) ?hd (cs := #[.int .i64 0, .int .i64 0, .int .i64 0, .int .i64 0, .bool false, .bool false, .bool false, .bool false]) (t := 29) ?hr ?_; (case hd => rfl); (case hg => rfl); (case hr => first | (go_simp; done) | (go_simp; rfl))
                         intro gb339 hg w67 hbox hb
                         have n0_ := Aside0.mk (blk_below (g := gb283) (o := .cells #[.int .i64 t274, .int .i64 t275, .int .i64 t276, .int .i64 t277, .bool t278, .bool t279, .bool t280, .bool t281] 29 (0, 0)) (kb BK283.out) hb)
                         have n1_ := Aside0.mk (blk_below (g := gb292) (o := .cells #[.int .i64 t284, .int .i64 t285, .int .i64 t286, .int .i64 t287, .bool t288, .bool t289, .bool t290, .bool t291] 29 (0, 0)) (kb BK292.out) hb)
                         have n2_ := Aside0.mk (blk_below (g := gb322) (o := .cells #[.int .i64 t313, .int .i64 t314, .int .i64 t315, .int .i64 t316, .bool t317, .bool t318, .bool t319, .bool t320] 29 (0, 0)) (kb BK322.out) hb)
                         have n3_ := Aside0.mk (blk_below (g := gb340) (o := .cells #[.int .i64 0, .int .i64 0, .int .i64 0, .int .i64 0, .bool false, .bool false, .bool false, .bool false] 29 (0, 0)) (kb BK340.out) hb)
                         have n4_ := Aside0.mk (below_step (bw HB.out) hb)
                         have n5_ := Aside0.mk (hbox)
                         have n6_ := Aside0.mk ((gs hg (bw HB.out)))
                         have n7_ := Aside0.mk ((gs hg (bw HB.out)))
                         have n8_ := Aside0.mk ((ga hg BK283.out))
                         have n9_ := Aside0.mk ((gc hg BK283.out))
                         have n10_ := Aside0.mk ((ga hg BK292.out))
                         have n11_ := Aside0.mk ((gc hg BK292.out))
                         have n12_ := Aside0.mk ((ga hg BK322.out))
                         have n13_ := Aside0.mk ((gc hg BK322.out))
                         have n14_ := Aside0.mk ((ga hg BK340.out))
                         have n15_ := Aside0.mk ((gc hg BK340.out))
                         clear BK283; clear BK292; clear BK322; clear BK340; clear HB; have BK283 := n0_; have BK292 := n1_; have BK322 := n2_; have BK340 := n3_; have HB := n4_; have BK339 := n5_; have GW339 := n6_; have GE339 := n7_; have NB283_339 := n8_; have NB339_283 := n9_; have NB292_339 := n10_; have NB339_292 := n11_; have NB322_339 := n12_; have NB339_322 := n13_; have NB340_339 := n14_; have NB339_340 := n15_; clear n0_ n1_ n2_ n3_ n4_ n5_ n6_ n7_ n8_ n9_ n10_ n11_ n12_ n13_ n14_ n15_; clear hb hbox hg
                         refine hK.out _ _ ⟨cl BK322 0, cl BK322 1, cl BK322 2, cl BK322 3, cl BK322 4, cl BK322 5, cl BK322 6, cl BK322 7⟩ (fun hHeld => ?_)
                         clear hK K
                         refine norm_ (a' := ?_) ?_ ?_
                         rotate_left
                         ·show Act.put _ (some 8) _ = _
                          simp only [Act.put, List.setIfInBounds_toArray, List.set_cons_zero, List.set_cons_succ, i64_w, i32_w]
                          rfl
                         exact norm_ (by first | (simp only [putAll, Act.put, List.setIfInBounds_toArray, List.set_cons_zero, List.set_cons_succ]; done) | (simp only [putAll, Act.put, List.setIfInBounds_toArray, List.set_cons_zero, List.set_cons_succ]; rfl)) (hJ6_7 (gb339, gb340) _ ⟨hHeld, (kb BK283.out), (kb BK292.out), (kb BK322.out), (kb BK339.out), (kb BK340.out), GW339.out, GE339.out, NB283_339.out, NB339_283.out, NB292_339.out, NB339_292.out, NB322_339.out, NB339_322.out, NB340_339.out, NB339_340.out, GW340.out, GE340.out, NB283_340.out, NB340_283.out, NB292_340.out, NB340_292.out, NB322_340.out, NB340_322.out, (bw HB.out)⟩)
                      ·skip
                       rintro gb339 w66 ⟨hS_, h0_, h1_, h2_, h3_, h4_, h5_, h6_, h7_, h8_, h9_, h10_, h11_, h12_⟩
                       have n0_ : Aside0 (w66.heap[gb283]? = some (.cells #[.int .i64 t274, .int .i64 t275, .int .i64 t276, .int .i64 t277, .bool t278, .bool t279, .bool t280, .bool t281] 29 (0, 0))) := ⟨h0_⟩
                       have n1_ : Aside0 (w66.heap[gb292]? = some (.cells #[.int .i64 t284, .int .i64 t285, .int .i64 t286, .int .i64 t287, .bool t288, .bool t289, .bool t290, .bool t291] 29 (0, 0))) := ⟨h1_⟩
                       have n2_ : Aside0 (w66.heap[gb322]? = some (.cells #[.int .i64 t313, .int .i64 t314, .int .i64 t315, .int .i64 t316, .bool t317, .bool t318, .bool t319, .bool t320] 29 (0, 0))) := ⟨h2_⟩
                       have n3_ : Aside0 (w66.heap[gb339]? = some (.cells #[.int .i64 0, .int .i64 0, .int .i64 0, .int .i64 0, .bool false, .bool false, .bool false, .bool false] 29 (0, 0))) := ⟨h3_⟩
                       have n4_ : Aside0 (w.heap.size ≤ gb339) := ⟨h4_⟩
                       have n5_ : Aside0 (w.heap.size ≤ gb339) := ⟨h5_⟩
                       have n6_ : Aside0 (gb283 ≠ gb339) := ⟨h6_⟩
                       have n7_ : Aside0 (gb339 ≠ gb283) := ⟨h7_⟩
                       have n8_ : Aside0 (gb292 ≠ gb339) := ⟨h8_⟩
                       have n9_ : Aside0 (gb339 ≠ gb292) := ⟨h9_⟩
                       have n10_ : Aside0 (gb322 ≠ gb339) := ⟨h10_⟩
                       have n11_ : Aside0 (gb339 ≠ gb322) := ⟨h11_⟩
                       have n12_ : Aside0 (Below w.heap.size w w66) := ⟨h12_⟩
                       clear BK283; clear BK292; clear BK322; clear HB; clear h0_ h1_ h2_ h3_ h4_ h5_ h6_ h7_ h8_ h9_ h10_ h11_ h12_; have BK283 := n0_; have BK292 := n1_; have BK322 := n2_; have BK339 := n3_; have GW339 := n4_; have GE339 := n5_; have NB283_339 := n6_; have NB339_283 := n7_; have NB292_339 := n8_; have NB339_292 := n9_; have NB322_339 := n10_; have NB339_322 := n11_; have HB := n12_; clear n0_ n1_ n2_ n3_ n4_ n5_ n6_ n7_ n8_ n9_ n10_ n11_ n12_
                       have hHeld : w66.cell? ⟨gb322, 0, none⟩ = some (.int .i64 t313) ∧ w66.cell? ⟨gb322, 1, none⟩ = some (.int .i64 t314) ∧ w66.cell? ⟨gb322, 2, none⟩ = some (.int .i64 t315) ∧ w66.cell? ⟨gb322, 3, none⟩ = some (.int .i64 t316) ∧ w66.cell? ⟨gb322, 4, none⟩ = some (.bool t317) ∧ w66.cell? ⟨gb322, 5, none⟩ = some (.bool t318) ∧ w66.cell? ⟨gb322, 6, none⟩ = some (.bool t319) ∧ w66.cell? ⟨gb322, 7, none⟩ = some (.bool t320) := hS_
                       refine norm_ (a' := ?_) ?_ ?_
                       rotate_left
                       ·simp only [putAll, Act.put, List.setIfInBounds_toArray, List.set_cons_zero, List.set_cons_succ]
                        rfl
                       refine two_ (i := 2) (j := 7) (Ni := some 54) (Nj := some 9) #[true, true, true, true, true, false, true, false, false, false] #[true, true, false, true, true, false, true, true, false, false] rfl rfl rfl rfl (two_of HT_.out (by kernel_rfl)) (by decide) (by decide) (fun K hK => ?_) (fun K hK => ?_)
                       ·skip
                        refine goes_ Try.func31 (by kernel_rfl) rfl #[.agg #[.int .i64 t313, .int .i64 t314, .int .i64 t315, .int .i64 t316, .bool t317, .bool t318, .bool t319, .bool t320], .int .i64 t321] (by rfl) rfl rfl (by (try simp only [List.map_toArray, List.map_cons, List.map_nil]); first | done | rfl | (simp only [List.length_drop, List.length_take]; rfl)) ?_
                        with_reducible refine (impl_SetA.calls t313 t314 t315 t316 t317 t318 t319 t320 t321 t323 t324 t325 t326 t327 t328 t329 t330 _ A46.out).mono ?_
                        rintro e w67 ⟨rfl, hb⟩
                        refine ⟨_, rfl, ?_⟩
                        have n0_ := Aside0.mk (blk_below (g := gb283) (o := .cells #[.int .i64 t274, .int .i64 t275, .int .i64 t276, .int .i64 t277, .bool t278, .bool t279, .bool t280, .bool t281] 29 (0, 0)) (kb BK283.out) hb)
                        have n1_ := Aside0.mk (blk_below (g := gb292) (o := .cells #[.int .i64 t284, .int .i64 t285, .int .i64 t286, .int .i64 t287, .bool t288, .bool t289, .bool t290, .bool t291] 29 (0, 0)) (kb BK292.out) hb)
                        have n2_ := Aside0.mk (blk_below (g := gb322) (o := .cells #[.int .i64 t313, .int .i64 t314, .int .i64 t315, .int .i64 t316, .bool t317, .bool t318, .bool t319, .bool t320] 29 (0, 0)) (kb BK322.out) hb)
                        have n3_ := Aside0.mk (blk_below (g := gb339) (o := .cells #[.int .i64 0, .int .i64 0, .int .i64 0, .int .i64 0, .bool false, .bool false, .bool false, .bool false] 29 (0, 0)) (kb BK339.out) hb)
                        have n4_ := Aside0.mk (below_step (bw HB.out) hb)
                        clear BK283; clear BK292; clear BK322; clear BK339; clear HB; have BK283 := n0_; have BK292 := n1_; have BK322 := n2_; have BK339 := n3_; have HB := n4_; clear n0_ n1_ n2_ n3_ n4_; (try clear hb); (try clear hb2); (try clear hk); (try clear hi)
                        refine hK.out _ _ ⟨cl BK322 0, cl BK322 1, cl BK322 2, cl BK322 3, cl BK322 4, cl BK322 5, cl BK322 6, cl BK322 7⟩ (fun hHeld => ?_)
                        clear hK K
                        refine norm_ (a' := ?_) ?_ ?_
                        rotate_left
                        ·show Act.put _ (some 54) _ = _
                         simp only [Act.put, List.setIfInBounds_toArray, List.set_cons_zero, List.set_cons_succ, i64_w, i32_w]
                         rfl
                        exact norm_ (by first | (simp only [putAll, Act.put, List.setIfInBounds_toArray, List.set_cons_zero, List.set_cons_succ]; done) | (simp only [putAll, Act.put, List.setIfInBounds_toArray, List.set_cons_zero, List.set_cons_succ]; rfl)) (hJ2_6 (gb339) _ ⟨hHeld, (kb BK283.out), (kb BK292.out), (kb BK322.out), (kb BK339.out), GW339.out, GE339.out, NB283_339.out, NB339_283.out, NB292_339.out, NB339_292.out, NB322_339.out, NB339_322.out, (bw HB.out)⟩)
                       ·skip
                        refine box_step ?hg (N := 9) ?hd (cs := #[.int .i64 0, .int .i64 0, .int .i64 0, .int .i64 0, .bool false, .bool false, .bool false, .bool false]) (t := 29) ?hr ?_; (case hd => rfl); (case hg => rfl); (case hr => first | (go_simp; done) | (go_simp; rfl))
                        intro gb340 hg w67 hbox hb
                        have n0_ := Aside0.mk (blk_below (g := gb283) (o := .cells #[.int .i64 t274, .int .i64 t275, .int .i64 t276, .int .i64 t277, .bool t278, .bool t279, .bool t280, .bool t281] 29 (0, 0)) (kb BK283.out) hb)
                        have n1_ := Aside0.mk (blk_below (g := gb292) (o := .cells #[.int .i64 t284, .int .i64 t285, .int .i64 t286, .int .i64 t287, .bool t288, .bool t289, .bool t290, .bool t291] 29 (0, 0)) (kb BK292.out) hb)
                        have n2_ := Aside0.mk (blk_below (g := gb322) (o := .cells #[.int .i64 t313, .int .i64 t314, .int .i64 t315, .int .i64 t316, .bool t317, .bool t318, .bool t319, .bool t320] 29 (0, 0)) (kb BK322.out) hb)
                        have n3_ := Aside0.mk (blk_below (g := gb339) (o := .cells #[.int .i64 0, .int .i64 0, .int .i64 0, .int .i64 0, .bool false, .bool false, .bool false, .bool false] 29 (0, 0)) (kb BK339.out) hb)
                        have n4_ := Aside0.mk (below_step (bw HB.out) hb)
                        have n5_ := Aside0.mk (hbox)
                        have n6_ := Aside0.mk ((gs hg (bw HB.out)))
                        have n7_ := Aside0.mk ((gs hg (bw HB.out)))
                        have n8_ := Aside0.mk ((ga hg BK283.out))
                        have n9_ := Aside0.mk ((gc hg BK283.out))
                        have n10_ := Aside0.mk ((ga hg BK292.out))
                        have n11_ := Aside0.mk ((gc hg BK292.out))
                        have n12_ := Aside0.mk ((ga hg BK322.out))
                        have n13_ := Aside0.mk ((gc hg BK322.out))
                        have n14_ := Aside0.mk ((ga hg BK339.out))
                        have n15_ := Aside0.mk ((gc hg BK339.out))
                        clear BK283; clear BK292; clear BK322; clear BK339; clear HB; have BK283 := n0_; have BK292 := n1_; have BK322 := n2_; have BK339 := n3_; have HB := n4_; have BK340 := n5_; have GW340 := n6_; have GE340 := n7_; have NB283_340 := n8_; have NB340_283 := n9_; have NB292_340 := n10_; have NB340_292 := n11_; have NB322_340 := n12_; have NB340_322 := n13_; have NB339_340 := n14_; have NB340_339 := n15_; clear n0_ n1_ n2_ n3_ n4_ n5_ n6_ n7_ n8_ n9_ n10_ n11_ n12_ n13_ n14_ n15_; clear hb hbox hg
                        refine hK.out _ _ ⟨cl BK322 0, cl BK322 1, cl BK322 2, cl BK322 3, cl BK322 4, cl BK322 5, cl BK322 6, cl BK322 7⟩ (fun hHeld => ?_)
                        clear hK K
                        refine norm_ (a' := ?_) ?_ ?_
                        rotate_left
                        ·show Act.put _ (some 9) _ = _
                         simp only [Act.put, List.setIfInBounds_toArray, List.set_cons_zero, List.set_cons_succ, i64_w, i32_w]
                         rfl
                        exact norm_ (by first | (simp only [putAll, Act.put, List.setIfInBounds_toArray, List.set_cons_zero, List.set_cons_succ]; done) | (simp only [putAll, Act.put, List.setIfInBounds_toArray, List.set_cons_zero, List.set_cons_succ]; rfl)) (hJ6_7 (gb339, gb340) _ ⟨hHeld, (kb BK283.out), (kb BK292.out), (kb BK322.out), (kb BK339.out), (kb BK340.out), GW339.out, GE339.out, NB283_339.out, NB339_283.out, NB292_339.out, NB339_292.out, NB322_339.out, NB339_322.out, NB340_339.out, NB339_340.out, GW340.out, GE340.out, NB283_340.out, NB340_283.out, NB292_340.out, NB340_292.out, NB322_340.out, NB340_322.out, (bw HB.out)⟩)
                     ·skip
                      rintro _ w66 ⟨hS_, h0_, h1_, h2_, h3_⟩
                      have n0_ : Aside0 (w66.heap[gb283]? = some (.cells #[.int .i64 t274, .int .i64 t275, .int .i64 t276, .int .i64 t277, .bool t278, .bool t279, .bool t280, .bool t281] 29 (0, 0))) := ⟨h0_⟩
                      have n1_ : Aside0 (w66.heap[gb292]? = some (.cells #[.int .i64 t284, .int .i64 t285, .int .i64 t286, .int .i64 t287, .bool t288, .bool t289, .bool t290, .bool t291] 29 (0, 0))) := ⟨h1_⟩
                      have n2_ : Aside0 (w66.heap[gb322]? = some (.cells #[.int .i64 t313, .int .i64 t314, .int .i64 t315, .int .i64 t316, .bool t317, .bool t318, .bool t319, .bool t320] 29 (0, 0))) := ⟨h2_⟩
                      have n3_ : Aside0 (Below w.heap.size w w66) := ⟨h3_⟩
                      clear BK283; clear BK292; clear BK322; clear HB; clear h0_ h1_ h2_ h3_; have BK283 := n0_; have BK292 := n1_; have BK322 := n2_; have HB := n3_; clear n0_ n1_ n2_ n3_
                      have hHeld : w66.cell? ⟨gb322, 0, none⟩ = some (.int .i64 t313) ∧ w66.cell? ⟨gb322, 1, none⟩ = some (.int .i64 t314) ∧ w66.cell? ⟨gb322, 2, none⟩ = some (.int .i64 t315) ∧ w66.cell? ⟨gb322, 3, none⟩ = some (.int .i64 t316) ∧ w66.cell? ⟨gb322, 4, none⟩ = some (.bool t317) ∧ w66.cell? ⟨gb322, 5, none⟩ = some (.bool t318) ∧ w66.cell? ⟨gb322, 6, none⟩ = some (.bool t319) ∧ w66.cell? ⟨gb322, 7, none⟩ = some (.bool t320) := hS_
                      refine norm_ (a' := ?_) ?_ ?_
                      rotate_left
                      ·simp only [putAll, Act.put, List.setIfInBounds_toArray, List.set_cons_zero, List.set_cons_succ]
                       rfl
                      refine three_ (i := 5) (j := 6) (k := 7) (Ni := some 57) (Nj := some 8) (Nk := some 9) #[true, true, true, true, true, true, false, false, false, false] #[true, true, true, true, true, false, true, false, false, false] #[true, true, true, true, true, false, false, true, false, false] rfl rfl rfl rfl rfl rfl (three_of HT_.out (by kernel_rfl)) (by decide) (by decide) (by decide) (fun K hK => ?_) (fun K hK => ?_) (fun K hK => ?_)
                      ·skip
                       refine goes_ Try.func33 (by kernel_rfl) rfl #[.agg #[.int .i64 t313, .int .i64 t314, .int .i64 t315, .int .i64 t316, .bool t317, .bool t318, .bool t319, .bool t320], .int .i64 t321] (by rfl) rfl rfl (by (try simp only [List.map_toArray, List.map_cons, List.map_nil]); first | done | rfl | (simp only [List.length_drop, List.length_take]; rfl)) ?_
                       with_reducible refine (impl_SetX.calls t313 t314 t315 t316 t317 t318 t319 t320 t321 t331 t332 t333 t334 t335 t336 t337 t338 _ A47.out).mono ?_
                       rintro e w67 ⟨rfl, hb⟩
                       refine ⟨_, rfl, ?_⟩
                       have n0_ := Aside0.mk (blk_below (g := gb283) (o := .cells #[.int .i64 t274, .int .i64 t275, .int .i64 t276, .int .i64 t277, .bool t278, .bool t279, .bool t280, .bool t281] 29 (0, 0)) (kb BK283.out) hb)
                       have n1_ := Aside0.mk (blk_below (g := gb292) (o := .cells #[.int .i64 t284, .int .i64 t285, .int .i64 t286, .int .i64 t287, .bool t288, .bool t289, .bool t290, .bool t291] 29 (0, 0)) (kb BK292.out) hb)
                       have n2_ := Aside0.mk (blk_below (g := gb322) (o := .cells #[.int .i64 t313, .int .i64 t314, .int .i64 t315, .int .i64 t316, .bool t317, .bool t318, .bool t319, .bool t320] 29 (0, 0)) (kb BK322.out) hb)
                       have n3_ := Aside0.mk (below_step (bw HB.out) hb)
                       clear BK283; clear BK292; clear BK322; clear HB; have BK283 := n0_; have BK292 := n1_; have BK322 := n2_; have HB := n3_; clear n0_ n1_ n2_ n3_; (try clear hb); (try clear hb2); (try clear hk); (try clear hi)
                       refine hK.out _ _ ⟨cl BK322 0, cl BK322 1, cl BK322 2, cl BK322 3, cl BK322 4, cl BK322 5, cl BK322 6, cl BK322 7⟩ (fun hHeld => ?_)
                       clear hK K
                       refine norm_ (a' := ?_) ?_ ?_
                       rotate_left
                       ·show Act.put _ (some 57) _ = _
                        simp only [Act.put, List.setIfInBounds_toArray, List.set_cons_zero, List.set_cons_succ, i64_w, i32_w]
                        rfl
                       exact norm_ (by first | (simp only [putAll, Act.put, List.setIfInBounds_toArray, List.set_cons_zero, List.set_cons_succ]; done) | (simp only [putAll, Act.put, List.setIfInBounds_toArray, List.set_cons_zero, List.set_cons_succ]; rfl)) (hJ2_5 () _ ⟨hHeld, (kb BK283.out), (kb BK292.out), (kb BK322.out), (bw HB.out)⟩)
                      ·skip
                       refine box_step ?hg (N := 8) ?hd (cs := #[.int .i64 0, .int .i64 0, .int .i64 0, .int .i64 0, .bool false, .bool false, .bool false, .bool false]) (t := 29) ?hr ?_; (case hd => rfl); (case hg => rfl); (case hr => first | (go_simp; done) | (go_simp; rfl))
                       intro gb339 hg w67 hbox hb
                       have n0_ := Aside0.mk (blk_below (g := gb283) (o := .cells #[.int .i64 t274, .int .i64 t275, .int .i64 t276, .int .i64 t277, .bool t278, .bool t279, .bool t280, .bool t281] 29 (0, 0)) (kb BK283.out) hb)
                       have n1_ := Aside0.mk (blk_below (g := gb292) (o := .cells #[.int .i64 t284, .int .i64 t285, .int .i64 t286, .int .i64 t287, .bool t288, .bool t289, .bool t290, .bool t291] 29 (0, 0)) (kb BK292.out) hb)
                       have n2_ := Aside0.mk (blk_below (g := gb322) (o := .cells #[.int .i64 t313, .int .i64 t314, .int .i64 t315, .int .i64 t316, .bool t317, .bool t318, .bool t319, .bool t320] 29 (0, 0)) (kb BK322.out) hb)
                       have n3_ := Aside0.mk (below_step (bw HB.out) hb)
                       have n4_ := Aside0.mk (hbox)
                       have n5_ := Aside0.mk ((gs hg (bw HB.out)))
                       have n6_ := Aside0.mk ((gs hg (bw HB.out)))
                       have n7_ := Aside0.mk ((ga hg BK283.out))
                       have n8_ := Aside0.mk ((gc hg BK283.out))
                       have n9_ := Aside0.mk ((ga hg BK292.out))
                       have n10_ := Aside0.mk ((gc hg BK292.out))
                       have n11_ := Aside0.mk ((ga hg BK322.out))
                       have n12_ := Aside0.mk ((gc hg BK322.out))
                       clear BK283; clear BK292; clear BK322; clear HB; have BK283 := n0_; have BK292 := n1_; have BK322 := n2_; have HB := n3_; have BK339 := n4_; have GW339 := n5_; have GE339 := n6_; have NB283_339 := n7_; have NB339_283 := n8_; have NB292_339 := n9_; have NB339_292 := n10_; have NB322_339 := n11_; have NB339_322 := n12_; clear n0_ n1_ n2_ n3_ n4_ n5_ n6_ n7_ n8_ n9_ n10_ n11_ n12_; clear hb hbox hg
                       refine hK.out _ _ ⟨cl BK322 0, cl BK322 1, cl BK322 2, cl BK322 3, cl BK322 4, cl BK322 5, cl BK322 6, cl BK322 7⟩ (fun hHeld => ?_)
                       clear hK K
                       refine norm_ (a' := ?_) ?_ ?_
                       rotate_left
                       ·show Act.put _ (some 8) _ = _
                        simp only [Act.put, List.setIfInBounds_toArray, List.set_cons_zero, List.set_cons_succ, i64_w, i32_w]
                        rfl
                       exact norm_ (by first | (simp only [putAll, Act.put, List.setIfInBounds_toArray, List.set_cons_zero, List.set_cons_succ]; done) | (simp only [putAll, Act.put, List.setIfInBounds_toArray, List.set_cons_zero, List.set_cons_succ]; rfl)) (hJ2_6 (gb339) _ ⟨hHeld, (kb BK283.out), (kb BK292.out), (kb BK322.out), (kb BK339.out), GW339.out, GE339.out, NB283_339.out, NB339_283.out, NB292_339.out, NB339_292.out, NB322_339.out, NB339_322.out, (bw HB.out)⟩)
                      ·skip
                       refine box_step ?hg (N := 9) ?hd (cs := #[.int .i64 0, .int .i64 0, .int .i64 0, .int .i64 0, .bool false, .bool false, .bool false, .bool false]) (t := 29) ?hr ?_; (case hd => rfl); (case hg => rfl); (case hr => first | (go_simp; done) | (go_simp; rfl))
                       intro gb340 hg w67 hbox hb
                       have n0_ := Aside0.mk (blk_below (g := gb283) (o := .cells #[.int .i64 t274, .int .i64 t275, .int .i64 t276, .int .i64 t277, .bool t278, .bool t279, .bool t280, .bool t281] 29 (0, 0)) (kb BK283.out) hb)
                       have n1_ := Aside0.mk (blk_below (g := gb292) (o := .cells #[.int .i64 t284, .int .i64 t285, .int .i64 t286, .int .i64 t287, .bool t288, .bool t289, .bool t290, .bool t291] 29 (0, 0)) (kb BK292.out) hb)
                       have n2_ := Aside0.mk (blk_below (g := gb322) (o := .cells #[.int .i64 t313, .int .i64 t314, .int .i64 t315, .int .i64 t316, .bool t317, .bool t318, .bool t319, .bool t320] 29 (0, 0)) (kb BK322.out) hb)
                       have n3_ := Aside0.mk (below_step (bw HB.out) hb)
                       have n4_ := Aside0.mk (hbox)
                       have n5_ := Aside0.mk ((gs hg (bw HB.out)))
                       have n6_ := Aside0.mk ((gs hg (bw HB.out)))
                       have n7_ := Aside0.mk ((ga hg BK283.out))
                       have n8_ := Aside0.mk ((gc hg BK283.out))
                       have n9_ := Aside0.mk ((ga hg BK292.out))
                       have n10_ := Aside0.mk ((gc hg BK292.out))
                       have n11_ := Aside0.mk ((ga hg BK322.out))
                       have n12_ := Aside0.mk ((gc hg BK322.out))
                       clear BK283; clear BK292; clear BK322; clear HB; have BK283 := n0_; have BK292 := n1_; have BK322 := n2_; have HB := n3_; have BK340 := n4_; have GW340 := n5_; have GE340 := n6_; have NB283_340 := n7_; have NB340_283 := n8_; have NB292_340 := n9_; have NB340_292 := n10_; have NB322_340 := n11_; have NB340_322 := n12_; clear n0_ n1_ n2_ n3_ n4_ n5_ n6_ n7_ n8_ n9_ n10_ n11_ n12_; clear hb hbox hg
                       refine hK.out _ _ ⟨cl BK322 0, cl BK322 1, cl BK322 2, cl BK322 3, cl BK322 4, cl BK322 5, cl BK322 6, cl BK322 7⟩ (fun hHeld => ?_)
                       clear hK K
                       refine norm_ (a' := ?_) ?_ ?_
                       rotate_left
                       ·show Act.put _ (some 9) _ = _
                        simp only [Act.put, List.setIfInBounds_toArray, List.set_cons_zero, List.set_cons_succ, i64_w, i32_w]
                        rfl
                       exact norm_ (by first | (simp only [putAll, Act.put, List.setIfInBounds_toArray, List.set_cons_zero, List.set_cons_succ]; done) | (simp only [putAll, Act.put, List.setIfInBounds_toArray, List.set_cons_zero, List.set_cons_succ]; rfl)) (hJ2_7 (gb340) _ ⟨hHeld, (kb BK283.out), (kb BK292.out), (kb BK322.out), (kb BK340.out), GW340.out, GE340.out, NB283_340.out, NB340_283.out, NB292_340.out, NB340_292.out, NB322_340.out, NB340_322.out, (bw HB.out)⟩)
                    ·skip
                     rintro ⟨gb339, gb340⟩ w67 ⟨hS_, h0_, h1_, h2_, h3_, h4_, h5_, h6_, h7_, h8_, h9_, h10_, h11_, h12_, h13_, h14_, h15_, h16_, h17_, h18_, h19_, h20_, h21_, h22_, h23_⟩
                     have n0_ : Aside0 (w67.heap[gb283]? = some (.cells #[.int .i64 t274, .int .i64 t275, .int .i64 t276, .int .i64 t277, .bool t278, .bool t279, .bool t280, .bool t281] 29 (0, 0))) := ⟨h0_⟩
                     have n1_ : Aside0 (w67.heap[gb292]? = some (.cells #[.int .i64 t284, .int .i64 t285, .int .i64 t286, .int .i64 t287, .bool t288, .bool t289, .bool t290, .bool t291] 29 (0, 0))) := ⟨h1_⟩
                     have n2_ : Aside0 (w67.heap[gb322]? = some (.cells #[.int .i64 t313, .int .i64 t314, .int .i64 t315, .int .i64 t316, .bool t317, .bool t318, .bool t319, .bool t320] 29 (0, 0))) := ⟨h2_⟩
                     have n3_ : Aside0 (w67.heap[gb339]? = some (.cells #[.int .i64 0, .int .i64 0, .int .i64 0, .int .i64 0, .bool false, .bool false, .bool false, .bool false] 29 (0, 0))) := ⟨h3_⟩
                     have n4_ : Aside0 (w67.heap[gb340]? = some (.cells #[.int .i64 0, .int .i64 0, .int .i64 0, .int .i64 0, .bool false, .bool false, .bool false, .bool false] 29 (0, 0))) := ⟨h4_⟩
                     have n5_ : Aside0 (w.heap.size ≤ gb339) := ⟨h5_⟩
                     have n6_ : Aside0 (w.heap.size ≤ gb339) := ⟨h6_⟩
                     have n7_ : Aside0 (gb283 ≠ gb339) := ⟨h7_⟩
                     have n8_ : Aside0 (gb339 ≠ gb283) := ⟨h8_⟩
                     have n9_ : Aside0 (gb292 ≠ gb339) := ⟨h9_⟩
                     have n10_ : Aside0 (gb339 ≠ gb292) := ⟨h10_⟩
                     have n11_ : Aside0 (gb322 ≠ gb339) := ⟨h11_⟩
                     have n12_ : Aside0 (gb339 ≠ gb322) := ⟨h12_⟩
                     have n13_ : Aside0 (gb340 ≠ gb339) := ⟨h13_⟩
                     have n14_ : Aside0 (gb339 ≠ gb340) := ⟨h14_⟩
                     have n15_ : Aside0 (w.heap.size ≤ gb340) := ⟨h15_⟩
                     have n16_ : Aside0 (w.heap.size ≤ gb340) := ⟨h16_⟩
                     have n17_ : Aside0 (gb283 ≠ gb340) := ⟨h17_⟩
                     have n18_ : Aside0 (gb340 ≠ gb283) := ⟨h18_⟩
                     have n19_ : Aside0 (gb292 ≠ gb340) := ⟨h19_⟩
                     have n20_ : Aside0 (gb340 ≠ gb292) := ⟨h20_⟩
                     have n21_ : Aside0 (gb322 ≠ gb340) := ⟨h21_⟩
                     have n22_ : Aside0 (gb340 ≠ gb322) := ⟨h22_⟩
                     have n23_ : Aside0 (Below w.heap.size w w67) := ⟨h23_⟩
                     clear BK283; clear BK292; clear BK322; clear HB; clear h0_ h1_ h2_ h3_ h4_ h5_ h6_ h7_ h8_ h9_ h10_ h11_ h12_ h13_ h14_ h15_ h16_ h17_ h18_ h19_ h20_ h21_ h22_ h23_; have BK283 := n0_; have BK292 := n1_; have BK322 := n2_; have BK339 := n3_; have BK340 := n4_; have GW339 := n5_; have GE339 := n6_; have NB283_339 := n7_; have NB339_283 := n8_; have NB292_339 := n9_; have NB339_292 := n10_; have NB322_339 := n11_; have NB339_322 := n12_; have NB340_339 := n13_; have NB339_340 := n14_; have GW340 := n15_; have GE340 := n16_; have NB283_340 := n17_; have NB340_283 := n18_; have NB292_340 := n19_; have NB340_292 := n20_; have NB322_340 := n21_; have NB340_322 := n22_; have HB := n23_; clear n0_ n1_ n2_ n3_ n4_ n5_ n6_ n7_ n8_ n9_ n10_ n11_ n12_ n13_ n14_ n15_ n16_ n17_ n18_ n19_ n20_ n21_ n22_ n23_
                     have hHeld : w67.cell? ⟨gb322, 0, none⟩ = some (.int .i64 t313) ∧ w67.cell? ⟨gb322, 1, none⟩ = some (.int .i64 t314) ∧ w67.cell? ⟨gb322, 2, none⟩ = some (.int .i64 t315) ∧ w67.cell? ⟨gb322, 3, none⟩ = some (.int .i64 t316) ∧ w67.cell? ⟨gb322, 4, none⟩ = some (.bool t317) ∧ w67.cell? ⟨gb322, 5, none⟩ = some (.bool t318) ∧ w67.cell? ⟨gb322, 6, none⟩ = some (.bool t319) ∧ w67.cell? ⟨gb322, 7, none⟩ = some (.bool t320) := hS_
                     refine norm_ (a' := ?_) ?_ ?_
                     rotate_left
                     ·simp only [putAll, Act.put, List.setIfInBounds_toArray, List.set_cons_zero, List.set_cons_succ]
                      rfl
                     refine one_ (i := 2) (N := some 54) #[true, true, true, true, true, false, true, true, false, false] rfl rfl (one_of HT_.out (by kernel_rfl)) (by decide) (fun K hK => ?_)
                     refine goes_ Try.func31 (by kernel_rfl) rfl #[.agg #[.int .i64 t313, .int .i64 t314, .int .i64 t315, .int .i64 t316, .bool t317, .bool t318, .bool t319, .bool t320], .int .i64 t321] (by rfl) rfl rfl (by (try simp only [List.map_toArray, List.map_cons, List.map_nil]); first | done | rfl | (simp only [List.length_drop, List.length_take]; rfl)) ?_
                     with_reducible refine (impl_SetA.calls t313 t314 t315 t316 t317 t318 t319 t320 t321 t323 t324 t325 t326 t327 t328 t329 t330 _ A46.out).mono ?_
                     rintro e w68 ⟨rfl, hb⟩
                     refine ⟨_, rfl, ?_⟩
                     have n0_ := Aside0.mk (blk_below (g := gb283) (o := .cells #[.int .i64 t274, .int .i64 t275, .int .i64 t276, .int .i64 t277, .bool t278, .bool t279, .bool t280, .bool t281] 29 (0, 0)) (kb BK283.out) hb)
                     have n1_ := Aside0.mk (blk_below (g := gb292) (o := .cells #[.int .i64 t284, .int .i64 t285, .int .i64 t286, .int .i64 t287, .bool t288, .bool t289, .bool t290, .bool t291] 29 (0, 0)) (kb BK292.out) hb)
                     have n2_ := Aside0.mk (blk_below (g := gb322) (o := .cells #[.int .i64 t313, .int .i64 t314, .int .i64 t315, .int .i64 t316, .bool t317, .bool t318, .bool t319, .bool t320] 29 (0, 0)) (kb BK322.out) hb)
                     have n3_ := Aside0.mk (blk_below (g := gb339) (o := .cells #[.int .i64 0, .int .i64 0, .int .i64 0, .int .i64 0, .bool false, .bool false, .bool false, .bool false] 29 (0, 0)) (kb BK339.out) hb)
                     have n4_ := Aside0.mk (blk_below (g := gb340) (o := .cells #[.int .i64 0, .int .i64 0, .int .i64 0, .int .i64 0, .bool false, .bool false, .bool false, .bool false] 29 (0, 0)) (kb BK340.out) hb)
                     have n5_ := Aside0.mk (below_step (bw HB.out) hb)
                     clear BK283; clear BK292; clear BK322; clear BK339; clear BK340; clear HB; have BK283 := n0_; have BK292 := n1_; have BK322 := n2_; have BK339 := n3_; have BK340 := n4_; have HB := n5_; clear n0_ n1_ n2_ n3_ n4_ n5_; (try clear hb); (try clear hb2); (try clear hk); (try clear hi)
                     refine hK.out _ _ ⟨cl BK322 0, cl BK322 1, cl BK322 2, cl BK322 3, cl BK322 4, cl BK322 5, cl BK322 6, cl BK322 7⟩ (fun hHeld => ?_)
                     clear hK K
                     refine norm_ (a' := ?_) ?_ ?_
                     rotate_left
                     ·show Act.put _ (some 54) _ = _
                      simp only [Act.put, List.setIfInBounds_toArray, List.set_cons_zero, List.set_cons_succ, i64_w, i32_w]
                      rfl
                     exact norm_ (by first | (simp only [putAll, Act.put, List.setIfInBounds_toArray, List.set_cons_zero, List.set_cons_succ]; done) | (simp only [putAll, Act.put, List.setIfInBounds_toArray, List.set_cons_zero, List.set_cons_succ]; rfl)) (hJ2_6_7 (gb339, gb340) _ ⟨hHeld, (kb BK283.out), (kb BK292.out), (kb BK322.out), (kb BK339.out), (kb BK340.out), GW339.out, GE339.out, NB283_339.out, NB339_283.out, NB292_339.out, NB339_292.out, NB322_339.out, NB339_322.out, NB340_339.out, NB339_340.out, GW340.out, GE340.out, NB283_340.out, NB340_283.out, NB292_340.out, NB340_292.out, NB322_340.out, NB340_322.out, (bw HB.out)⟩)
                   ·skip
                    rintro gb340 w67 ⟨hS_, h0_, h1_, h2_, h3_, h4_, h5_, h6_, h7_, h8_, h9_, h10_, h11_, h12_⟩
                    have n0_ : Aside0 (w67.heap[gb283]? = some (.cells #[.int .i64 t274, .int .i64 t275, .int .i64 t276, .int .i64 t277, .bool t278, .bool t279, .bool t280, .bool t281] 29 (0, 0))) := ⟨h0_⟩
                    have n1_ : Aside0 (w67.heap[gb292]? = some (.cells #[.int .i64 t284, .int .i64 t285, .int .i64 t286, .int .i64 t287, .bool t288, .bool t289, .bool t290, .bool t291] 29 (0, 0))) := ⟨h1_⟩
                    have n2_ : Aside0 (w67.heap[gb322]? = some (.cells #[.int .i64 t313, .int .i64 t314, .int .i64 t315, .int .i64 t316, .bool t317, .bool t318, .bool t319, .bool t320] 29 (0, 0))) := ⟨h2_⟩
                    have n3_ : Aside0 (w67.heap[gb340]? = some (.cells #[.int .i64 0, .int .i64 0, .int .i64 0, .int .i64 0, .bool false, .bool false, .bool false, .bool false] 29 (0, 0))) := ⟨h3_⟩
                    have n4_ : Aside0 (w.heap.size ≤ gb340) := ⟨h4_⟩
                    have n5_ : Aside0 (w.heap.size ≤ gb340) := ⟨h5_⟩
                    have n6_ : Aside0 (gb283 ≠ gb340) := ⟨h6_⟩
                    have n7_ : Aside0 (gb340 ≠ gb283) := ⟨h7_⟩
                    have n8_ : Aside0 (gb292 ≠ gb340) := ⟨h8_⟩
                    have n9_ : Aside0 (gb340 ≠ gb292) := ⟨h9_⟩
                    have n10_ : Aside0 (gb322 ≠ gb340) := ⟨h10_⟩
                    have n11_ : Aside0 (gb340 ≠ gb322) := ⟨h11_⟩
                    have n12_ : Aside0 (Below w.heap.size w w67) := ⟨h12_⟩
                    clear BK283; clear BK292; clear BK322; clear HB; clear h0_ h1_ h2_ h3_ h4_ h5_ h6_ h7_ h8_ h9_ h10_ h11_ h12_; have BK283 := n0_; have BK292 := n1_; have BK322 := n2_; have BK340 := n3_; have GW340 := n4_; have GE340 := n5_; have NB283_340 := n6_; have NB340_283 := n7_; have NB292_340 := n8_; have NB340_292 := n9_; have NB322_340 := n10_; have NB340_322 := n11_; have HB := n12_; clear n0_ n1_ n2_ n3_ n4_ n5_ n6_ n7_ n8_ n9_ n10_ n11_ n12_
                    have hHeld : w67.cell? ⟨gb322, 0, none⟩ = some (.int .i64 t313) ∧ w67.cell? ⟨gb322, 1, none⟩ = some (.int .i64 t314) ∧ w67.cell? ⟨gb322, 2, none⟩ = some (.int .i64 t315) ∧ w67.cell? ⟨gb322, 3, none⟩ = some (.int .i64 t316) ∧ w67.cell? ⟨gb322, 4, none⟩ = some (.bool t317) ∧ w67.cell? ⟨gb322, 5, none⟩ = some (.bool t318) ∧ w67.cell? ⟨gb322, 6, none⟩ = some (.bool t319) ∧ w67.cell? ⟨gb322, 7, none⟩ = some (.bool t320) := hS_
                    refine norm_ (a' := ?_) ?_ ?_
                    rotate_left
                    ·simp only [putAll, Act.put, List.setIfInBounds_toArray, List.set_cons_zero, List.set_cons_succ]
                     rfl
                    refine two_ (i := 5) (j := 6) (Ni := some 57) (Nj := some 8) #[true, true, true, true, true, true, false, true, false, false] #[true, true, true, true, true, false, true, true, false, false] rfl rfl rfl rfl (two_of HT_.out (by kernel_rfl)) (by decide) (by decide) (fun K hK => ?_) (fun K hK => ?_)
                    ·skip
                     refine goes_ Try.func33 (by kernel_rfl) rfl #[.agg #[.int .i64 t313, .int .i64 t314, .int .i64 t315, .int .i64 t316, .bool t317, .bool t318, .bool t319, .bool t320], .int .i64 t321] (by rfl) rfl rfl (by (try simp only [List.map_toArray, List.map_cons, List.map_nil]); first | done | rfl | (simp only [List.length_drop, List.length_take]; rfl)) ?_
                     with_reducible refine (impl_SetX.calls t313 t314 t315 t316 t317 t318 t319 t320 t321 t331 t332 t333 t334 t335 t336 t337 t338 _ A47.out).mono ?_
                     rintro e w68 ⟨rfl, hb⟩
                     refine ⟨_, rfl, ?_⟩
                     have n0_ := Aside0.mk (blk_below (g := gb283) (o := .cells #[.int .i64 t274, .int .i64 t275, .int .i64 t276, .int .i64 t277, .bool t278, .bool t279, .bool t280, .bool t281] 29 (0, 0)) (kb BK283.out) hb)
                     have n1_ := Aside0.mk (blk_below (g := gb292) (o := .cells #[.int .i64 t284, .int .i64 t285, .int .i64 t286, .int .i64 t287, .bool t288, .bool t289, .bool t290, .bool t291] 29 (0, 0)) (kb BK292.out) hb)
                     have n2_ := Aside0.mk (blk_below (g := gb322) (o := .cells #[.int .i64 t313, .int .i64 t314, .int .i64 t315, .int .i64 t316, .bool t317, .bool t318, .bool t319, .bool t320] 29 (0, 0)) (kb BK322.out) hb)
                     have n3_ := Aside0.mk (blk_below (g := gb340) (o := .cells #[.int .i64 0, .int .i64 0, .int .i64 0, .int .i64 0, .bool false, .bool false, .bool false, .bool false] 29 (0, 0)) (kb BK340.out) hb)
                     have n4_ := Aside0.mk (below_step (bw HB.out) hb)
                     clear BK283; clear BK292; clear BK322; clear BK340; clear HB; have BK283 := n0_; have BK292 := n1_; have BK322 := n2_; have BK340 := n3_; have HB := n4_; clear n0_ n1_ n2_ n3_ n4_; (try clear hb); (try clear hb2); (try clear hk); (try clear hi)
                     refine hK.out _ _ ⟨cl BK322 0, cl BK322 1, cl BK322 2, cl BK322 3, cl BK322 4, cl BK322 5, cl BK322 6, cl BK322 7⟩ (fun hHeld => ?_)
                     clear hK K
                     refine norm_ (a' := ?_) ?_ ?_
                     rotate_left
                     ·show Act.put _ (some 57) _ = _
                      simp only [Act.put, List.setIfInBounds_toArray, List.set_cons_zero, List.set_cons_succ, i64_w, i32_w]
                      rfl
                     exact norm_ (by first | (simp only [putAll, Act.put, List.setIfInBounds_toArray, List.set_cons_zero, List.set_cons_succ]; done) | (simp only [putAll, Act.put, List.setIfInBounds_toArray, List.set_cons_zero, List.set_cons_succ]; rfl)) (hJ2_5_7 (gb340) _ ⟨hHeld, (kb BK283.out), (kb BK292.out), (kb BK322.out), (kb BK340.out), GW340.out, GE340.out, NB283_340.out, NB340_283.out, NB292_340.out, NB340_292.out, NB322_340.out, NB340_322.out, (bw HB.out)⟩)
                    ·skip
                     refine box_step ?hg (N := 8) ?hd (cs := #[.int .i64 0, .int .i64 0, .int .i64 0, .int .i64 0, .bool false, .bool false, .bool false, .bool false]) (t := 29) ?hr ?_; (case hd => rfl); (case hg => rfl); (case hr => first | (go_simp; done) | (go_simp; rfl))
                     intro gb339 hg w68 hbox hb
                     have n0_ := Aside0.mk (blk_below (g := gb283) (o := .cells #[.int .i64 t274, .int .i64 t275, .int .i64 t276, .int .i64 t277, .bool t278, .bool t279, .bool t280, .bool t281] 29 (0, 0)) (kb BK283.out) hb)
                     have n1_ := Aside0.mk (blk_below (g := gb292) (o := .cells #[.int .i64 t284, .int .i64 t285, .int .i64 t286, .int .i64 t287, .bool t288, .bool t289, .bool t290, .bool t291] 29 (0, 0)) (kb BK292.out) hb)
                     have n2_ := Aside0.mk (blk_below (g := gb322) (o := .cells #[.int .i64 t313, .int .i64 t314, .int .i64 t315, .int .i64 t316, .bool t317, .bool t318, .bool t319, .bool t320] 29 (0, 0)) (kb BK322.out) hb)
                     have n3_ := Aside0.mk (blk_below (g := gb340) (o := .cells #[.int .i64 0, .int .i64 0, .int .i64 0, .int .i64 0, .bool false, .bool false, .bool false, .bool false] 29 (0, 0)) (kb BK340.out) hb)
                     have n4_ := Aside0.mk (below_step (bw HB.out) hb)
                     have n5_ := Aside0.mk (hbox)
                     have n6_ := Aside0.mk ((gs hg (bw HB.out)))
                     have n7_ := Aside0.mk ((gs hg (bw HB.out)))
                     have n8_ := Aside0.mk ((ga hg BK283.out))
                     have n9_ := Aside0.mk ((gc hg BK283.out))
                     have n10_ := Aside0.mk ((ga hg BK292.out))
                     have n11_ := Aside0.mk ((gc hg BK292.out))
                     have n12_ := Aside0.mk ((ga hg BK322.out))
                     have n13_ := Aside0.mk ((gc hg BK322.out))
                     have n14_ := Aside0.mk ((ga hg BK340.out))
                     have n15_ := Aside0.mk ((gc hg BK340.out))
                     clear BK283; clear BK292; clear BK322; clear BK340; clear HB; have BK283 := n0_; have BK292 := n1_; have BK322 := n2_; have BK340 := n3_; have HB := n4_; have BK339 := n5_; have GW339 := n6_; have GE339 := n7_; have NB283_339 := n8_; have NB339_283 := n9_; have NB292_339 := n10_; have NB339_292 := n11_; have NB322_339 := n12_; have NB339_322 := n13_; have NB340_339 := n14_; have NB339_340 := n15_; clear n0_ n1_ n2_ n3_ n4_ n5_ n6_ n7_ n8_ n9_ n10_ n11_ n12_ n13_ n14_ n15_; clear hb hbox hg
                     refine hK.out _ _ ⟨cl BK322 0, cl BK322 1, cl BK322 2, cl BK322 3, cl BK322 4, cl BK322 5, cl BK322 6, cl BK322 7⟩ (fun hHeld => ?_)
                     clear hK K
                     refine norm_ (a' := ?_) ?_ ?_
                     rotate_left
                     ·show Act.put _ (some 8) _ = _
                      simp only [Act.put, List.setIfInBounds_toArray, List.set_cons_zero, List.set_cons_succ, i64_w, i32_w]
                      rfl
                     exact norm_ (by first | (simp only [putAll, Act.put, List.setIfInBounds_toArray, List.set_cons_zero, List.set_cons_succ]; done) | (simp only [putAll, Act.put, List.setIfInBounds_toArray, List.set_cons_zero, List.set_cons_succ]; rfl)) (hJ2_6_7 (gb339, gb340) _ ⟨hHeld, (kb BK283.out), (kb BK292.out), (kb BK322.out), (kb BK339.out), (kb BK340.out), GW339.out, GE339.out, NB283_339.out, NB339_283.out, NB292_339.out, NB339_292.out, NB322_339.out, NB339_322.out, NB340_339.out, NB339_340.out, GW340.out, GE340.out, NB283_340.out, NB340_283.out, NB292_340.out, NB340_292.out, NB322_340.out, NB340_322.out, (bw HB.out)⟩)
                  ·skip
                   rintro gb339 w67 ⟨hS_, h0_, h1_, h2_, h3_, h4_, h5_, h6_, h7_, h8_, h9_, h10_, h11_, h12_⟩
                   have n0_ : Aside0 (w67.heap[gb283]? = some (.cells #[.int .i64 t274, .int .i64 t275, .int .i64 t276, .int .i64 t277, .bool t278, .bool t279, .bool t280, .bool t281] 29 (0, 0))) := ⟨h0_⟩
                   have n1_ : Aside0 (w67.heap[gb292]? = some (.cells #[.int .i64 t284, .int .i64 t285, .int .i64 t286, .int .i64 t287, .bool t288, .bool t289, .bool t290, .bool t291] 29 (0, 0))) := ⟨h1_⟩
                   have n2_ : Aside0 (w67.heap[gb322]? = some (.cells #[.int .i64 t313, .int .i64 t314, .int .i64 t315, .int .i64 t316, .bool t317, .bool t318, .bool t319, .bool t320] 29 (0, 0))) := ⟨h2_⟩
                   have n3_ : Aside0 (w67.heap[gb339]? = some (.cells #[.int .i64 0, .int .i64 0, .int .i64 0, .int .i64 0, .bool false, .bool false, .bool false, .bool false] 29 (0, 0))) := ⟨h3_⟩
                   have n4_ : Aside0 (w.heap.size ≤ gb339) := ⟨h4_⟩
                   have n5_ : Aside0 (w.heap.size ≤ gb339) := ⟨h5_⟩
                   have n6_ : Aside0 (gb283 ≠ gb339) := ⟨h6_⟩
                   have n7_ : Aside0 (gb339 ≠ gb283) := ⟨h7_⟩
                   have n8_ : Aside0 (gb292 ≠ gb339) := ⟨h8_⟩
                   have n9_ : Aside0 (gb339 ≠ gb292) := ⟨h9_⟩
                   have n10_ : Aside0 (gb322 ≠ gb339) := ⟨h10_⟩
                   have n11_ : Aside0 (gb339 ≠ gb322) := ⟨h11_⟩
                   have n12_ : Aside0 (Below w.heap.size w w67) := ⟨h12_⟩
                   clear BK283; clear BK292; clear BK322; clear HB; clear h0_ h1_ h2_ h3_ h4_ h5_ h6_ h7_ h8_ h9_ h10_ h11_ h12_; have BK283 := n0_; have BK292 := n1_; have BK322 := n2_; have BK339 := n3_; have GW339 := n4_; have GE339 := n5_; have NB283_339 := n6_; have NB339_283 := n7_; have NB292_339 := n8_; have NB339_292 := n9_; have NB322_339 := n10_; have NB339_322 := n11_; have HB := n12_; clear n0_ n1_ n2_ n3_ n4_ n5_ n6_ n7_ n8_ n9_ n10_ n11_ n12_
                   have hHeld : w67.cell? ⟨gb322, 0, none⟩ = some (.int .i64 t313) ∧ w67.cell? ⟨gb322, 1, none⟩ = some (.int .i64 t314) ∧ w67.cell? ⟨gb322, 2, none⟩ = some (.int .i64 t315) ∧ w67.cell? ⟨gb322, 3, none⟩ = some (.int .i64 t316) ∧ w67.cell? ⟨gb322, 4, none⟩ = some (.bool t317) ∧ w67.cell? ⟨gb322, 5, none⟩ = some (.bool t318) ∧ w67.cell? ⟨gb322, 6, none⟩ = some (.bool t319) ∧ w67.cell? ⟨gb322, 7, none⟩ = some (.bool t320) := hS_
                   refine norm_ (a' := ?_) ?_ ?_
                   rotate_left
                   ·simp only [putAll, Act.put, List.setIfInBounds_toArray, List.set_cons_zero, List.set_cons_succ]
                    rfl
                   refine two_ (i := 5) (j := 7) (Ni := some 57) (Nj := some 9) #[true, true, true, true, true, true, true, false, false, false] #[true, true, true, true, true, false, true, true, false, false] rfl rfl rfl rfl (two_of HT_.out (by kernel_rfl)) (by decide) (by decide) (fun K hK => ?_) (fun K hK => ?_)
                   ·skip
                    refine goes_ Try.func33 (by kernel_rfl) rfl #[.agg #[.int .i64 t313, .int .i64 t314, .int .i64 t315, .int .i64 t316, .bool t317, .bool t318, .bool t319, .bool t320], .int .i64 t321] (by rfl) rfl rfl (by (try simp only [List.map_toArray, List.map_cons, List.map_nil]); first | done | rfl | (simp only [List.length_drop, List.length_take]; rfl)) ?_
                    with_reducible refine (impl_SetX.calls t313 t314 t315 t316 t317 t318 t319 t320 t321 t331 t332 t333 t334 t335 t336 t337 t338 _ A47.out).mono ?_
                    rintro e w68 ⟨rfl, hb⟩
                    refine ⟨_, rfl, ?_⟩
                    have n0_ := Aside0.mk (blk_below (g := gb283) (o := .cells #[.int .i64 t274, .int .i64 t275, .int .i64 t276, .int .i64 t277, .bool t278, .bool t279, .bool t280, .bool t281] 29 (0, 0)) (kb BK283.out) hb)
                    have n1_ := Aside0.mk (blk_below (g := gb292) (o := .cells #[.int .i64 t284, .int .i64 t285, .int .i64 t286, .int .i64 t287, .bool t288, .bool t289, .bool t290, .bool t291] 29 (0, 0)) (kb BK292.out) hb)
                    have n2_ := Aside0.mk (blk_below (g := gb322) (o := .cells #[.int .i64 t313, .int .i64 t314, .int .i64 t315, .int .i64 t316, .bool t317, .bool t318, .bool t319, .bool t320] 29 (0, 0)) (kb BK322.out) hb)
                    have n3_ := Aside0.mk (blk_below (g := gb339) (o := .cells #[.int .i64 0, .int .i64 0, .int .i64 0, .int .i64 0, .bool false, .bool false, .bool false, .bool false] 29 (0, 0)) (kb BK339.out) hb)
                    have n4_ := Aside0.mk (below_step (bw HB.out) hb)
                    clear BK283; clear BK292; clear BK322; clear BK339; clear HB; have BK283 := n0_; have BK292 := n1_; have BK322 := n2_; have BK339 := n3_; have HB := n4_; clear n0_ n1_ n2_ n3_ n4_; (try clear hb); (try clear hb2); (try clear hk); (try clear hi)
                    refine hK.out _ _ ⟨cl BK322 0, cl BK322 1, cl BK322 2, cl BK322 3, cl BK322 4, cl BK322 5, cl BK322 6, cl BK322 7⟩ (fun hHeld => ?_)
                    clear hK K
                    refine norm_ (a' := ?_) ?_ ?_
                    rotate_left
                    ·show Act.put _ (some 57) _ = _
                     simp only [Act.put, List.setIfInBounds_toArray, List.set_cons_zero, List.set_cons_succ, i64_w, i32_w]
                     rfl
                    exact norm_ (by first | (simp only [putAll, Act.put, List.setIfInBounds_toArray, List.set_cons_zero, List.set_cons_succ]; done) | (simp only [putAll, Act.put, List.setIfInBounds_toArray, List.set_cons_zero, List.set_cons_succ]; rfl)) (hJ2_5_6 (gb339) _ ⟨hHeld, (kb BK283.out), (kb BK292.out), (kb BK322.out), (kb BK339.out), GW339.out, GE339.out, NB283_339.out, NB339_283.out, NB292_339.out, NB339_292.out, NB322_339.out, NB339_322.out, (bw HB.out)⟩)
                   ·skip
                    refine box_step ?hg (N := 9) ?hd (cs := #[.int .i64 0, .int .i64 0, .int .i64 0, .int .i64 0, .bool false, .bool false, .bool false, .bool false]) (t := 29) ?hr ?_; (case hd => rfl); (case hg => rfl); (case hr => first | (go_simp; done) | (go_simp; rfl))
                    intro gb340 hg w68 hbox hb
                    have n0_ := Aside0.mk (blk_below (g := gb283) (o := .cells #[.int .i64 t274, .int .i64 t275, .int .i64 t276, .int .i64 t277, .bool t278, .bool t279, .bool t280, .bool t281] 29 (0, 0)) (kb BK283.out) hb)
                    have n1_ := Aside0.mk (blk_below (g := gb292) (o := .cells #[.int .i64 t284, .int .i64 t285, .int .i64 t286, .int .i64 t287, .bool t288, .bool t289, .bool t290, .bool t291] 29 (0, 0)) (kb BK292.out) hb)
                    have n2_ := Aside0.mk (blk_below (g := gb322) (o := .cells #[.int .i64 t313, .int .i64 t314, .int .i64 t315, .int .i64 t316, .bool t317, .bool t318, .bool t319, .bool t320] 29 (0, 0)) (kb BK322.out) hb)
                    have n3_ := Aside0.mk (blk_below (g := gb339) (o := .cells #[.int .i64 0, .int .i64 0, .int .i64 0, .int .i64 0, .bool false, .bool false, .bool false, .bool false] 29 (0, 0)) (kb BK339.out) hb)
                    have n4_ := Aside0.mk (below_step (bw HB.out) hb)
                    have n5_ := Aside0.mk (hbox)
                    have n6_ := Aside0.mk ((gs hg (bw HB.out)))
                    have n7_ := Aside0.mk ((gs hg (bw HB.out)))
                    have n8_ := Aside0.mk ((ga hg BK283.out))
                    have n9_ := Aside0.mk ((gc hg BK283.out))
                    have n10_ := Aside0.mk ((ga hg BK292.out))
                    have n11_ := Aside0.mk ((gc hg BK292.out))
                    have n12_ := Aside0.mk ((ga hg BK322.out))
                    have n13_ := Aside0.mk ((gc hg BK322.out))
                    have n14_ := Aside0.mk ((ga hg BK339.out))
                    have n15_ := Aside0.mk ((gc hg BK339.out))
                    clear BK283; clear BK292; clear BK322; clear BK339; clear HB; have BK283 := n0_; have BK292 := n1_; have BK322 := n2_; have BK339 := n3_; have HB := n4_; have BK340 := n5_; have GW340 := n6_; have GE340 := n7_; have NB283_340 := n8_; have NB340_283 := n9_; have NB292_340 := n10_; have NB340_292 := n11_; have NB322_340 := n12_; have NB340_322 := n13_; have NB339_340 := n14_; have NB340_339 := n15_; clear n0_ n1_ n2_ n3_ n4_ n5_ n6_ n7_ n8_ n9_ n10_ n11_ n12_ n13_ n14_ n15_; clear hb hbox hg
                    refine hK.out _ _ ⟨cl BK322 0, cl BK322 1, cl BK322 2, cl BK322 3, cl BK322 4, cl BK322 5, cl BK322 6, cl BK322 7⟩ (fun hHeld => ?_)
                    clear hK K
                    refine norm_ (a' := ?_) ?_ ?_
                    rotate_left
                    ·show Act.put _ (some 9) _ = _
                     simp only [Act.put, List.setIfInBounds_toArray, List.set_cons_zero, List.set_cons_succ, i64_w, i32_w]
                     rfl
                    exact norm_ (by first | (simp only [putAll, Act.put, List.setIfInBounds_toArray, List.set_cons_zero, List.set_cons_succ]; done) | (simp only [putAll, Act.put, List.setIfInBounds_toArray, List.set_cons_zero, List.set_cons_succ]; rfl)) (hJ2_6_7 (gb339, gb340) _ ⟨hHeld, (kb BK283.out), (kb BK292.out), (kb BK322.out), (kb BK339.out), (kb BK340.out), GW339.out, GE339.out, NB283_339.out, NB339_283.out, NB292_339.out, NB339_292.out, NB322_339.out, NB339_322.out, NB340_339.out, NB339_340.out, GW340.out, GE340.out, NB283_340.out, NB340_283.out, NB292_340.out, NB340_292.out, NB322_340.out, NB340_322.out, (bw HB.out)⟩)
                 ·skip
                  rintro _ w67 ⟨hS_, h0_, h1_, h2_, h3_⟩
                  have n0_ : Aside0 (w67.heap[gb283]? = some (.cells #[.int .i64 t274, .int .i64 t275, .int .i64 t276, .int .i64 t277, .bool t278, .bool t279, .bool t280, .bool t281] 29 (0, 0))) := ⟨h0_⟩
                  have n1_ : Aside0 (w67.heap[gb292]? = some (.cells #[.int .i64 t284, .int .i64 t285, .int .i64 t286, .int .i64 t287, .bool t288, .bool t289, .bool t290, .bool t291] 29 (0, 0))) := ⟨h1_⟩
                  have n2_ : Aside0 (w67.heap[gb322]? = some (.cells #[.int .i64 t313, .int .i64 t314, .int .i64 t315, .int .i64 t316, .bool t317, .bool t318, .bool t319, .bool t320] 29 (0, 0))) := ⟨h2_⟩
                  have n3_ : Aside0 (Below w.heap.size w w67) := ⟨h3_⟩
                  clear BK283; clear BK292; clear BK322; clear HB; clear h0_ h1_ h2_ h3_; have BK283 := n0_; have BK292 := n1_; have BK322 := n2_; have HB := n3_; clear n0_ n1_ n2_ n3_
                  have hHeld : w67.cell? ⟨gb322, 0, none⟩ = some (.int .i64 t313) ∧ w67.cell? ⟨gb322, 1, none⟩ = some (.int .i64 t314) ∧ w67.cell? ⟨gb322, 2, none⟩ = some (.int .i64 t315) ∧ w67.cell? ⟨gb322, 3, none⟩ = some (.int .i64 t316) ∧ w67.cell? ⟨gb322, 4, none⟩ = some (.bool t317) ∧ w67.cell? ⟨gb322, 5, none⟩ = some (.bool t318) ∧ w67.cell? ⟨gb322, 6, none⟩ = some (.bool t319) ∧ w67.cell? ⟨gb322, 7, none⟩ = some (.bool t320) := hS_
                  refine norm_ (a' := ?_) ?_ ?_
                  rotate_left
                  ·simp only [putAll, Act.put, List.setIfInBounds_toArray, List.set_cons_zero, List.set_cons_succ]
                   rfl
                  refine two_ (i := 6) (j := 7) (Ni := some 8) (Nj := some 9) #[true, true, true, true, true, true, true, false, false, false] #[true, true, true, true, true, true, false, true, false, false] rfl rfl rfl rfl (two_of HT_.out (by kernel_rfl)) (by decide) (by decide) (fun K hK => ?_) (fun K hK => ?_)
                  ·skip
                   refine box_step ?hg (N := 8) ?hd (cs := #[.int .i64 0, .int .i64 0, .int .i64 0, .int .i64 0, .bool false, .bool false, .bool false, .bool false]) (t := 29) ?hr ?_; (case hd => rfl); (case hg => rfl); (case hr => first | (go_simp; done) | (go_simp; rfl))
                   intro gb339 hg w68 hbox hb
                   have n0_ := Aside0.mk (blk_below (g := gb283) (o := .cells #[.int .i64 t274, .int .i64 t275, .int .i64 t276, .int .i64 t277, .bool t278, .bool t279, .bool t280, .bool t281] 29 (0, 0)) (kb BK283.out) hb)
                   have n1_ := Aside0.mk (blk_below (g := gb292) (o := .cells #[.int .i64 t284, .int .i64 t285, .int .i64 t286, .int .i64 t287, .bool t288, .bool t289, .bool t290, .bool t291] 29 (0, 0)) (kb BK292.out) hb)
                   have n2_ := Aside0.mk (blk_below (g := gb322) (o := .cells #[.int .i64 t313, .int .i64 t314, .int .i64 t315, .int .i64 t316, .bool t317, .bool t318, .bool t319, .bool t320] 29 (0, 0)) (kb BK322.out) hb)
                   have n3_ := Aside0.mk (below_step (bw HB.out) hb)
                   have n4_ := Aside0.mk (hbox)
                   have n5_ := Aside0.mk ((gs hg (bw HB.out)))
                   have n6_ := Aside0.mk ((gs hg (bw HB.out)))
                   have n7_ := Aside0.mk ((ga hg BK283.out))
                   have n8_ := Aside0.mk ((gc hg BK283.out))
                   have n9_ := Aside0.mk ((ga hg BK292.out))
                   have n10_ := Aside0.mk ((gc hg BK292.out))
                   have n11_ := Aside0.mk ((ga hg BK322.out))
                   have n12_ := Aside0.mk ((gc hg BK322.out))
                   clear BK283; clear BK292; clear BK322; clear HB; have BK283 := n0_; have BK292 := n1_; have BK322 := n2_; have HB := n3_; have BK339 := n4_; have GW339 := n5_; have GE339 := n6_; have NB283_339 := n7_; have NB339_283 := n8_; have NB292_339 := n9_; have NB339_292 := n10_; have NB322_339 := n11_; have NB339_322 := n12_; clear n0_ n1_ n2_ n3_ n4_ n5_ n6_ n7_ n8_ n9_ n10_ n11_ n12_; clear hb hbox hg
                   refine hK.out _ _ ⟨cl BK322 0, cl BK322 1, cl BK322 2, cl BK322 3, cl BK322 4, cl BK322 5, cl BK322 6, cl BK322 7⟩ (fun hHeld => ?_)
                   clear hK K
                   refine norm_ (a' := ?_) ?_ ?_
                   rotate_left
                   ·show Act.put _ (some 8) _ = _
                    simp only [Act.put, List.setIfInBounds_toArray, List.set_cons_zero, List.set_cons_succ, i64_w, i32_w]
                    rfl
                   exact norm_ (by first | (simp only [putAll, Act.put, List.setIfInBounds_toArray, List.set_cons_zero, List.set_cons_succ]; done) | (simp only [putAll, Act.put, List.setIfInBounds_toArray, List.set_cons_zero, List.set_cons_succ]; rfl)) (hJ2_5_6 (gb339) _ ⟨hHeld, (kb BK283.out), (kb BK292.out), (kb BK322.out), (kb BK339.out), GW339.out, GE339.out, NB283_339.out, NB339_283.out, NB292_339.out, NB339_292.out, NB322_339.out, NB339_322.out, (bw HB.out)⟩)
                  ·skip
                   refine box_step ?hg (N := 9) ?hd (cs := #[.int .i64 0, .int .i64 0, .int .i64 0, .int .i64 0, .bool false, .bool false, .bool false, .bool false]) (t := 29) ?hr ?_; (case hd => rfl); (case hg => rfl); (case hr => first | (go_simp; done) | (go_simp; rfl))
                   intro gb340 hg w68 hbox hb
                   have n0_ := Aside0.mk (blk_below (g := gb283) (o := .cells #[.int .i64 t274, .int .i64 t275, .int .i64 t276, .int .i64 t277, .bool t278, .bool t279, .bool t280, .bool t281] 29 (0, 0)) (kb BK283.out) hb)
                   have n1_ := Aside0.mk (blk_below (g := gb292) (o := .cells #[.int .i64 t284, .int .i64 t285, .int .i64 t286, .int .i64 t287, .bool t288, .bool t289, .bool t290, .bool t291] 29 (0, 0)) (kb BK292.out) hb)
                   have n2_ := Aside0.mk (blk_below (g := gb322) (o := .cells #[.int .i64 t313, .int .i64 t314, .int .i64 t315, .int .i64 t316, .bool t317, .bool t318, .bool t319, .bool t320] 29 (0, 0)) (kb BK322.out) hb)
                   have n3_ := Aside0.mk (below_step (bw HB.out) hb)
                   have n4_ := Aside0.mk (hbox)
                   have n5_ := Aside0.mk ((gs hg (bw HB.out)))
                   have n6_ := Aside0.mk ((gs hg (bw HB.out)))
                   have n7_ := Aside0.mk ((ga hg BK283.out))
                   have n8_ := Aside0.mk ((gc hg BK283.out))
                   have n9_ := Aside0.mk ((ga hg BK292.out))
                   have n10_ := Aside0.mk ((gc hg BK292.out))
                   have n11_ := Aside0.mk ((ga hg BK322.out))
                   have n12_ := Aside0.mk ((gc hg BK322.out))
                   clear BK283; clear BK292; clear BK322; clear HB; have BK283 := n0_; have BK292 := n1_; have BK322 := n2_; have HB := n3_; have BK340 := n4_; have GW340 := n5_; have GE340 := n6_; have NB283_340 := n7_; have NB340_283 := n8_; have NB292_340 := n9_; have NB340_292 := n10_; have NB322_340 := n11_; have NB340_322 := n12_; clear n0_ n1_ n2_ n3_ n4_ n5_ n6_ n7_ n8_ n9_ n10_ n11_ n12_; clear hb hbox hg
                   refine hK.out _ _ ⟨cl BK322 0, cl BK322 1, cl BK322 2, cl BK322 3, cl BK322 4, cl BK322 5, cl BK322 6, cl BK322 7⟩ (fun hHeld => ?_)
                   clear hK K
                   refine norm_ (a' := ?_) ?_ ?_
                   rotate_left
                   ·show Act.put _ (some 9) _ = _
                    simp only [Act.put, List.setIfInBounds_toArray, List.set_cons_zero, List.set_cons_succ, i64_w, i32_w]
                    rfl
                   exact norm_ (by first | (simp only [putAll, Act.put, List.setIfInBounds_toArray, List.set_cons_zero, List.set_cons_succ]; done) | (simp only [putAll, Act.put, List.setIfInBounds_toArray, List.set_cons_zero, List.set_cons_succ]; rfl)) (hJ2_5_7 (gb340) _ ⟨hHeld, (kb BK283.out), (kb BK292.out), (kb BK322.out), (kb BK340.out), GW340.out, GE340.out, NB283_340.out, NB340_283.out, NB292_340.out, NB340_292.out, NB322_340.out, NB340_322.out, (bw HB.out)⟩)
                ·skip
                 rintro ⟨gb339, gb340⟩ w68 ⟨hS_, h0_, h1_, h2_, h3_, h4_, h5_, h6_, h7_, h8_, h9_, h10_, h11_, h12_, h13_, h14_, h15_, h16_, h17_, h18_, h19_, h20_, h21_, h22_, h23_⟩
                 have n0_ : Aside0 (w68.heap[gb283]? = some (.cells #[.int .i64 t274, .int .i64 t275, .int .i64 t276, .int .i64 t277, .bool t278, .bool t279, .bool t280, .bool t281] 29 (0, 0))) := ⟨h0_⟩
                 have n1_ : Aside0 (w68.heap[gb292]? = some (.cells #[.int .i64 t284, .int .i64 t285, .int .i64 t286, .int .i64 t287, .bool t288, .bool t289, .bool t290, .bool t291] 29 (0, 0))) := ⟨h1_⟩
                 have n2_ : Aside0 (w68.heap[gb322]? = some (.cells #[.int .i64 t313, .int .i64 t314, .int .i64 t315, .int .i64 t316, .bool t317, .bool t318, .bool t319, .bool t320] 29 (0, 0))) := ⟨h2_⟩
                 have n3_ : Aside0 (w68.heap[gb339]? = some (.cells #[.int .i64 0, .int .i64 0, .int .i64 0, .int .i64 0, .bool false, .bool false, .bool false, .bool false] 29 (0, 0))) := ⟨h3_⟩
                 have n4_ : Aside0 (w68.heap[gb340]? = some (.cells #[.int .i64 0, .int .i64 0, .int .i64 0, .int .i64 0, .bool false, .bool false, .bool false, .bool false] 29 (0, 0))) := ⟨h4_⟩
                 have n5_ : Aside0 (w.heap.size ≤ gb339) := ⟨h5_⟩
                 have n6_ : Aside0 (w.heap.size ≤ gb339) := ⟨h6_⟩
                 have n7_ : Aside0 (gb283 ≠ gb339) := ⟨h7_⟩
                 have n8_ : Aside0 (gb339 ≠ gb283) := ⟨h8_⟩
                 have n9_ : Aside0 (gb292 ≠ gb339) := ⟨h9_⟩
                 have n10_ : Aside0 (gb339 ≠ gb292) := ⟨h10_⟩
                 have n11_ : Aside0 (gb322 ≠ gb339) := ⟨h11_⟩
                 have n12_ : Aside0 (gb339 ≠ gb322) := ⟨h12_⟩
                 have n13_ : Aside0 (gb340 ≠ gb339) := ⟨h13_⟩
                 have n14_ : Aside0 (gb339 ≠ gb340) := ⟨h14_⟩
                 have n15_ : Aside0 (w.heap.size ≤ gb340) := ⟨h15_⟩
                 have n16_ : Aside0 (w.heap.size ≤ gb340) := ⟨h16_⟩
                 have n17_ : Aside0 (gb283 ≠ gb340) := ⟨h17_⟩
                 have n18_ : Aside0 (gb340 ≠ gb283) := ⟨h18_⟩
                 have n19_ : Aside0 (gb292 ≠ gb340) := ⟨h19_⟩
                 have n20_ : Aside0 (gb340 ≠ gb292) := ⟨h20_⟩
                 have n21_ : Aside0 (gb322 ≠ gb340) := ⟨h21_⟩
                 have n22_ : Aside0 (gb340 ≠ gb322) := ⟨h22_⟩
                 have n23_ : Aside0 (Below w.heap.size w w68) := ⟨h23_⟩
                 clear BK283; clear BK292; clear BK322; clear HB; clear h0_ h1_ h2_ h3_ h4_ h5_ h6_ h7_ h8_ h9_ h10_ h11_ h12_ h13_ h14_ h15_ h16_ h17_ h18_ h19_ h20_ h21_ h22_ h23_; have BK283 := n0_; have BK292 := n1_; have BK322 := n2_; have BK339 := n3_; have BK340 := n4_; have GW339 := n5_; have GE339 := n6_; have NB283_339 := n7_; have NB339_283 := n8_; have NB292_339 := n9_; have NB339_292 := n10_; have NB322_339 := n11_; have NB339_322 := n12_; have NB340_339 := n13_; have NB339_340 := n14_; have GW340 := n15_; have GE340 := n16_; have NB283_340 := n17_; have NB340_283 := n18_; have NB292_340 := n19_; have NB340_292 := n20_; have NB322_340 := n21_; have NB340_322 := n22_; have HB := n23_; clear n0_ n1_ n2_ n3_ n4_ n5_ n6_ n7_ n8_ n9_ n10_ n11_ n12_ n13_ n14_ n15_ n16_ n17_ n18_ n19_ n20_ n21_ n22_ n23_
                 have hHeld : w68.cell? ⟨gb322, 0, none⟩ = some (.int .i64 t313) ∧ w68.cell? ⟨gb322, 1, none⟩ = some (.int .i64 t314) ∧ w68.cell? ⟨gb322, 2, none⟩ = some (.int .i64 t315) ∧ w68.cell? ⟨gb322, 3, none⟩ = some (.int .i64 t316) ∧ w68.cell? ⟨gb322, 4, none⟩ = some (.bool t317) ∧ w68.cell? ⟨gb322, 5, none⟩ = some (.bool t318) ∧ w68.cell? ⟨gb322, 6, none⟩ = some (.bool t319) ∧ w68.cell? ⟨gb322, 7, none⟩ = some (.bool t320) := hS_
                 refine norm_ (a' := ?_) ?_ ?_
                 rotate_left
                 ·simp only [putAll, Act.put, List.setIfInBounds_toArray, List.set_cons_zero, List.set_cons_succ]
                  rfl
                 refine one_ (i := 5) (N := some 57) #[true, true, true, true, true, true, true, true, false, false] rfl rfl (one_of HT_.out (by kernel_rfl)) (by decide) (fun K hK => ?_)
                 refine goes_ Try.func33 (by kernel_rfl) rfl #[.agg #[.int .i64 t313, .int .i64 t314, .int .i64 t315, .int .i64 t316, .bool t317, .bool t318, .bool t319, .bool t320], .int .i64 t321] (by rfl) rfl rfl (by (try simp only [List.map_toArray, List.map_cons, List.map_nil]); first | done | rfl | (simp only [List.length_drop, List.length_take]; rfl)) ?_
                 with_reducible refine (impl_SetX.calls t313 t314 t315 t316 t317 t318 t319 t320 t321 t331 t332 t333 t334 t335 t336 t337 t338 _ A47.out).mono ?_
                 rintro e w69 ⟨rfl, hb⟩
                 refine ⟨_, rfl, ?_⟩
                 have n0_ := Aside0.mk (blk_below (g := gb283) (o := .cells #[.int .i64 t274, .int .i64 t275, .int .i64 t276, .int .i64 t277, .bool t278, .bool t279, .bool t280, .bool t281] 29 (0, 0)) (kb BK283.out) hb)
                 have n1_ := Aside0.mk (blk_below (g := gb292) (o := .cells #[.int .i64 t284, .int .i64 t285, .int .i64 t286, .int .i64 t287, .bool t288, .bool t289, .bool t290, .bool t291] 29 (0, 0)) (kb BK292.out) hb)
                 have n2_ := Aside0.mk (blk_below (g := gb322) (o := .cells #[.int .i64 t313, .int .i64 t314, .int .i64 t315, .int .i64 t316, .bool t317, .bool t318, .bool t319, .bool t320] 29 (0, 0)) (kb BK322.out) hb)
                 have n3_ := Aside0.mk (blk_below (g := gb339) (o := .cells #[.int .i64 0, .int .i64 0, .int .i64 0, .int .i64 0, .bool false, .bool false, .bool false, .bool false] 29 (0, 0)) (kb BK339.out) hb)
                 have n4_ := Aside0.mk (blk_below (g := gb340) (o := .cells #[.int .i64 0, .int .i64 0, .int .i64 0, .int .i64 0, .bool false, .bool false, .bool false, .bool false] 29 (0, 0)) (kb BK340.out) hb)
                 have n5_ := Aside0.mk (below_step (bw HB.out) hb)
                 clear BK283; clear BK292; clear BK322; clear BK339; clear BK340; clear HB; have BK283 := n0_; have BK292 := n1_; have BK322 := n2_; have BK339 := n3_; have BK340 := n4_; have HB := n5_; clear n0_ n1_ n2_ n3_ n4_ n5_; (try clear hb); (try clear hb2); (try clear hk); (try clear hi)
                 refine hK.out _ _ ⟨cl BK322 0, cl BK322 1, cl BK322 2, cl BK322 3, cl BK322 4, cl BK322 5, cl BK322 6, cl BK322 7⟩ (fun hHeld => ?_)
                 clear hK K
                 refine norm_ (a' := ?_) ?_ ?_
                 rotate_left
                 ·show Act.put _ (some 57) _ = _
                  simp only [Act.put, List.setIfInBounds_toArray, List.set_cons_zero, List.set_cons_succ, i64_w, i32_w]
                  rfl
                 exact norm_ (by first | (simp only [putAll, Act.put, List.setIfInBounds_toArray, List.set_cons_zero, List.set_cons_succ]; done) | (simp only [putAll, Act.put, List.setIfInBounds_toArray, List.set_cons_zero, List.set_cons_succ]; rfl)) (hJ2_5_6_7 (gb339, gb340) _ ⟨hHeld, (kb BK283.out), (kb BK292.out), (kb BK322.out), (kb BK339.out), (kb BK340.out), GW339.out, GE339.out, NB283_339.out, NB339_283.out, NB292_339.out, NB339_292.out, NB322_339.out, NB339_322.out, NB340_339.out, NB339_340.out, GW340.out, GE340.out, NB283_340.out, NB340_283.out, NB292_340.out, NB340_292.out, NB322_340.out, NB340_322.out, (bw HB.out)⟩)
               ·skip
                rintro gb340 w68 ⟨hS_, h0_, h1_, h2_, h3_, h4_, h5_, h6_, h7_, h8_, h9_, h10_, h11_, h12_⟩
                have n0_ : Aside0 (w68.heap[gb283]? = some (.cells #[.int .i64 t274, .int .i64 t275, .int .i64 t276, .int .i64 t277, .bool t278, .bool t279, .bool t280, .bool t281] 29 (0, 0))) := ⟨h0_⟩
                have n1_ : Aside0 (w68.heap[gb292]? = some (.cells #[.int .i64 t284, .int .i64 t285, .int .i64 t286, .int .i64 t287, .bool t288, .bool t289, .bool t290, .bool t291] 29 (0, 0))) := ⟨h1_⟩
                have n2_ : Aside0 (w68.heap[gb322]? = some (.cells #[.int .i64 t313, .int .i64 t314, .int .i64 t315, .int .i64 t316, .bool t317, .bool t318, .bool t319, .bool t320] 29 (0, 0))) := ⟨h2_⟩
                have n3_ : Aside0 (w68.heap[gb340]? = some (.cells #[.int .i64 0, .int .i64 0, .int .i64 0, .int .i64 0, .bool false, .bool false, .bool false, .bool false] 29 (0, 0))) := ⟨h3_⟩
                have n4_ : Aside0 (w.heap.size ≤ gb340) := ⟨h4_⟩
                have n5_ : Aside0 (w.heap.size ≤ gb340) := ⟨h5_⟩
                have n6_ : Aside0 (gb283 ≠ gb340) := ⟨h6_⟩
                have n7_ : Aside0 (gb340 ≠ gb283) := ⟨h7_⟩
                have n8_ : Aside0 (gb292 ≠ gb340) := ⟨h8_⟩
                have n9_ : Aside0 (gb340 ≠ gb292) := ⟨h9_⟩
                have n10_ : Aside0 (gb322 ≠ gb340) := ⟨h10_⟩
                have n11_ : Aside0 (gb340 ≠ gb322) := ⟨h11_⟩
                have n12_ : Aside0 (Below w.heap.size w w68) := ⟨h12_⟩
                clear BK283; clear BK292; clear BK322; clear HB; clear h0_ h1_ h2_ h3_ h4_ h5_ h6_ h7_ h8_ h9_ h10_ h11_ h12_; have BK283 := n0_; have BK292 := n1_; have BK322 := n2_; have BK340 := n3_; have GW340 := n4_; have GE340 := n5_; have NB283_340 := n6_; have NB340_283 := n7_; have NB292_340 := n8_; have NB340_292 := n9_; have NB322_340 := n10_; have NB340_322 := n11_; have HB := n12_; clear n0_ n1_ n2_ n3_ n4_ n5_ n6_ n7_ n8_ n9_ n10_ n11_ n12_
                have hHeld : w68.cell? ⟨gb322, 0, none⟩ = some (.int .i64 t313) ∧ w68.cell? ⟨gb322, 1, none⟩ = some (.int .i64 t314) ∧ w68.cell? ⟨gb322, 2, none⟩ = some (.int .i64 t315) ∧ w68.cell? ⟨gb322, 3, none⟩ = some (.int .i64 t316) ∧ w68.cell? ⟨gb322, 4, none⟩ = some (.bool t317) ∧ w68.cell? ⟨gb322, 5, none⟩ = some (.bool t318) ∧ w68.cell? ⟨gb322, 6, none⟩ = some (.bool t319) ∧ w68.cell? ⟨gb322, 7, none⟩ = some (.bool t320) := hS_
                refine norm_ (a' := ?_) ?_ ?_
                rotate_left
                ·simp only [putAll, Act.put, List.setIfInBounds_toArray, List.set_cons_zero, List.set_cons_succ]
                 rfl
                refine one_ (i := 6) (N := some 8) #[true, true, true, true, true, true, true, true, false, false] rfl rfl (one_of HT_.out (by kernel_rfl)) (by decide) (fun K hK => ?_)
                refine box_step ?hg (N := 8) ?hd (cs := #[.int .i64 0, .int .i64 0, .int .i64 0, .int .i64 0, .bool false, .bool false, .bool false, .bool false]) (t := 29) ?hr ?_; (case hd => rfl); (case hg => rfl); (case hr => first | (go_simp; done) | (go_simp; rfl))
                intro gb339 hg w69 hbox hb
                have n0_ := Aside0.mk (blk_below (g := gb283) (o := .cells #[.int .i64 t274, .int .i64 t275, .int .i64 t276, .int .i64 t277, .bool t278, .bool t279, .bool t280, .bool t281] 29 (0, 0)) (kb BK283.out) hb)
                have n1_ := Aside0.mk (blk_below (g := gb292) (o := .cells #[.int .i64 t284, .int .i64 t285, .int .i64 t286, .int .i64 t287, .bool t288, .bool t289, .bool t290, .bool t291] 29 (0, 0)) (kb BK292.out) hb)
                have n2_ := Aside0.mk (blk_below (g := gb322) (o := .cells #[.int .i64 t313, .int .i64 t314, .int .i64 t315, .int .i64 t316, .bool t317, .bool t318, .bool t319, .bool t320] 29 (0, 0)) (kb BK322.out) hb)
                have n3_ := Aside0.mk (blk_below (g := gb340) (o := .cells #[.int .i64 0, .int .i64 0, .int .i64 0, .int .i64 0, .bool false, .bool false, .bool false, .bool false] 29 (0, 0)) (kb BK340.out) hb)
                have n4_ := Aside0.mk (below_step (bw HB.out) hb)
                have n5_ := Aside0.mk (hbox)
                have n6_ := Aside0.mk ((gs hg (bw HB.out)))
                have n7_ := Aside0.mk ((gs hg (bw HB.out)))
                have n8_ := Aside0.mk ((ga hg BK283.out))
                have n9_ := Aside0.mk ((gc hg BK283.out))
                have n10_ := Aside0.mk ((ga hg BK292.out))
                have n11_ := Aside0.mk ((gc hg BK292.out))
                have n12_ := Aside0.mk ((ga hg BK322.out))
                have n13_ := Aside0.mk ((gc hg BK322.out))
                have n14_ := Aside0.mk ((ga hg BK340.out))
                have n15_ := Aside0.mk ((gc hg BK340.out))
                clear BK283; clear BK292; clear BK322; clear BK340; clear HB; have BK283 := n0_; have BK292 := n1_; have BK322 := n2_; have BK340 := n3_; have HB := n4_; have BK339 := n5_; have GW339 := n6_; have GE339 := n7_; have NB283_339 := n8_; have NB339_283 := n9_; have NB292_339 := n10_; have NB339_292 := n11_; have NB322_339 := n12_; have NB339_322 := n13_; have NB340_339 := n14_; have NB339_340 := n15_; clear n0_ n1_ n2_ n3_ n4_ n5_ n6_ n7_ n8_ n9_ n10_ n11_ n12_ n13_ n14_ n15_; clear hb hbox hg
                refine hK.out _ _ ⟨cl BK322 0, cl BK322 1, cl BK322 2, cl BK322 3, cl BK322 4, cl BK322 5, cl BK322 6, cl BK322 7⟩ (fun hHeld => ?_)
                clear hK K
                refine norm_ (a' := ?_) ?_ ?_
                rotate_left
                ·show Act.put _ (some 8) _ = _
                 simp only [Act.put, List.setIfInBounds_toArray, List.set_cons_zero, List.set_cons_succ, i64_w, i32_w]
                 rfl
                exact norm_ (by first | (simp only [putAll, Act.put, List.setIfInBounds_toArray, List.set_cons_zero, List.set_cons_succ]; done) | (simp only [putAll, Act.put, List.setIfInBounds_toArray, List.set_cons_zero, List.set_cons_succ]; rfl)) (hJ2_5_6_7 (gb339, gb340) _ ⟨hHeld, (kb BK283.out), (kb BK292.out), (kb BK322.out), (kb BK339.out), (kb BK340.out), GW339.out, GE339.out, NB283_339.out, NB339_283.out, NB292_339.out, NB339_292.out, NB322_339.out, NB339_322.out, NB340_339.out, NB339_340.out, GW340.out, GE340.out, NB283_340.out, NB340_283.out, NB292_340.out, NB340_292.out, NB322_340.out, NB340_322.out, (bw HB.out)⟩)
              ·skip
               rintro gb339 w68 ⟨hS_, h0_, h1_, h2_, h3_, h4_, h5_, h6_, h7_, h8_, h9_, h10_, h11_, h12_⟩
               have n0_ : Aside0 (w68.heap[gb283]? = some (.cells #[.int .i64 t274, .int .i64 t275, .int .i64 t276, .int .i64 t277, .bool t278, .bool t279, .bool t280, .bool t281] 29 (0, 0))) := ⟨h0_⟩
               have n1_ : Aside0 (w68.heap[gb292]? = some (.cells #[.int .i64 t284, .int .i64 t285, .int .i64 t286, .int .i64 t287, .bool t288, .bool t289, .bool t290, .bool t291] 29 (0, 0))) := ⟨h1_⟩
               have n2_ : Aside0 (w68.heap[gb322]? = some (.cells #[.int .i64 t313, .int .i64 t314, .int .i64 t315, .int .i64 t316, .bool t317, .bool t318, .bool t319, .bool t320] 29 (0, 0))) := ⟨h2_⟩
               have n3_ : Aside0 (w68.heap[gb339]? = some (.cells #[.int .i64 0, .int .i64 0, .int .i64 0, .int .i64 0, .bool false, .bool false, .bool false, .bool false] 29 (0, 0))) := ⟨h3_⟩
               have n4_ : Aside0 (w.heap.size ≤ gb339) := ⟨h4_⟩
               have n5_ : Aside0 (w.heap.size ≤ gb339) := ⟨h5_⟩
               have n6_ : Aside0 (gb283 ≠ gb339) := ⟨h6_⟩
               have n7_ : Aside0 (gb339 ≠ gb283) := ⟨h7_⟩
               have n8_ : Aside0 (gb292 ≠ gb339) := ⟨h8_⟩
               have n9_ : Aside0 (gb339 ≠ gb292) := ⟨h9_⟩
               have n10_ : Aside0 (gb322 ≠ gb339) := ⟨h10_⟩
               have n11_ : Aside0 (gb339 ≠ gb322) := ⟨h11_⟩
               have n12_ : Aside0 (Below w.heap.size w w68) := ⟨h12_⟩
               clear BK283; clear BK292; clear BK322; clear HB; clear h0_ h1_ h2_ h3_ h4_ h5_ h6_ h7_ h8_ h9_ h10_ h11_ h12_; have BK283 := n0_; have BK292 := n1_; have BK322 := n2_; have BK339 := n3_; have GW339 := n4_; have GE339 := n5_; have NB283_339 := n6_; have NB339_283 := n7_; have NB292_339 := n8_; have NB339_292 := n9_; have NB322_339 := n10_; have NB339_322 := n11_; have HB := n12_; clear n0_ n1_ n2_ n3_ n4_ n5_ n6_ n7_ n8_ n9_ n10_ n11_ n12_
               have hHeld : w68.cell? ⟨gb322, 0, none⟩ = some (.int .i64 t313) ∧ w68.cell? ⟨gb322, 1, none⟩ = some (.int .i64 t314) ∧ w68.cell? ⟨gb322, 2, none⟩ = some (.int .i64 t315) ∧ w68.cell? ⟨gb322, 3, none⟩ = some (.int .i64 t316) ∧ w68.cell? ⟨gb322, 4, none⟩ = some (.bool t317) ∧ w68.cell? ⟨gb322, 5, none⟩ = some (.bool t318) ∧ w68.cell? ⟨gb322, 6, none⟩ = some (.bool t319) ∧ w68.cell? ⟨gb322, 7, none⟩ = some (.bool t320) := hS_
               refine norm_ (a' := ?_) ?_ ?_
               rotate_left
               ·simp only [putAll, Act.put, List.setIfInBounds_toArray, List.set_cons_zero, List.set_cons_succ]
                rfl
               refine one_ (i := 7) (N := some 9) #[true, true, true, true, true, true, true, true, false, false] rfl rfl (one_of HT_.out (by kernel_rfl)) (by decide) (fun K hK => ?_)
               refine box_step ?hg (N := 9) ?hd (cs := #[.int .i64 0, .int .i64 0, .int .i64 0, .int .i64 0, .bool false, .bool false, .bool false, .bool false]) (t := 29) ?hr ?_; (case hd => rfl); (case hg => rfl); (case hr => first | (go_simp; done) | (go_simp; rfl))
               intro gb340 hg w69 hbox hb
               have n0_ := Aside0.mk (blk_below (g := gb283) (o := .cells #[.int .i64 t274, .int .i64 t275, .int .i64 t276, .int .i64 t277, .bool t278, .bool t279, .bool t280, .bool t281] 29 (0, 0)) (kb BK283.out) hb)
               have n1_ := Aside0.mk (blk_below (g := gb292) (o := .cells #[.int .i64 t284, .int .i64 t285, .int .i64 t286, .int .i64 t287, .bool t288, .bool t289, .bool t290, .bool t291] 29 (0, 0)) (kb BK292.out) hb)
               have n2_ := Aside0.mk (blk_below (g := gb322) (o := .cells #[.int .i64 t313, .int .i64 t314, .int .i64 t315, .int .i64 t316, .bool t317, .bool t318, .bool t319, .bool t320] 29 (0, 0)) (kb BK322.out) hb)
               have n3_ := Aside0.mk (blk_below (g := gb339) (o := .cells #[.int .i64 0, .int .i64 0, .int .i64 0, .int .i64 0, .bool false, .bool false, .bool false, .bool false] 29 (0, 0)) (kb BK339.out) hb)
               have n4_ := Aside0.mk (below_step (bw HB.out) hb)
               have n5_ := Aside0.mk (hbox)
               have n6_ := Aside0.mk ((gs hg (bw HB.out)))
               have n7_ := Aside0.mk ((gs hg (bw HB.out)))
               have n8_ := Aside0.mk ((ga hg BK283.out))
               have n9_ := Aside0.mk ((gc hg BK283.out))
               have n10_ := Aside0.mk ((ga hg BK292.out))
               have n11_ := Aside0.mk ((gc hg BK292.out))
               have n12_ := Aside0.mk ((ga hg BK322.out))
               have n13_ := Aside0.mk ((gc hg BK322.out))
               have n14_ := Aside0.mk ((ga hg BK339.out))
               have n15_ := Aside0.mk ((gc hg BK339.out))
               clear BK283; clear BK292; clear BK322; clear BK339; clear HB; have BK283 := n0_; have BK292 := n1_; have BK322 := n2_; have BK339 := n3_; have HB := n4_; have BK340 := n5_; have GW340 := n6_; have GE340 := n7_; have NB283_340 := n8_; have NB340_283 := n9_; have NB292_340 := n10_; have NB340_292 := n11_; have NB322_340 := n12_; have NB340_322 := n13_; have NB339_340 := n14_; have NB340_339 := n15_; clear n0_ n1_ n2_ n3_ n4_ n5_ n6_ n7_ n8_ n9_ n10_ n11_ n12_ n13_ n14_ n15_; clear hb hbox hg
               refine hK.out _ _ ⟨cl BK322 0, cl BK322 1, cl BK322 2, cl BK322 3, cl BK322 4, cl BK322 5, cl BK322 6, cl BK322 7⟩ (fun hHeld => ?_)
               clear hK K
               refine norm_ (a' := ?_) ?_ ?_
               rotate_left
               ·show Act.put _ (some 9) _ = _
                simp only [Act.put, List.setIfInBounds_toArray, List.set_cons_zero, List.set_cons_succ, i64_w, i32_w]
                rfl
               exact norm_ (by first | (simp only [putAll, Act.put, List.setIfInBounds_toArray, List.set_cons_zero, List.set_cons_succ]; done) | (simp only [putAll, Act.put, List.setIfInBounds_toArray, List.set_cons_zero, List.set_cons_succ]; rfl)) (hJ2_5_6_7 (gb339, gb340) _ ⟨hHeld, (kb BK283.out), (kb BK292.out), (kb BK322.out), (kb BK339.out), (kb BK340.out), GW339.out, GE339.out, NB283_339.out, NB339_283.out, NB292_339.out, NB339_292.out, NB322_339.out, NB339_322.out, NB340_339.out, NB339_340.out, GW340.out, GE340.out, NB283_340.out, NB340_283.out, NB292_340.out, NB340_292.out, NB322_340.out, NB340_322.out, (bw HB.out)⟩)
             rintro ⟨gb339, gb340⟩ w69 ⟨hS_, h0_, h1_, h2_, h3_, h4_, h5_, h6_, h7_, h8_, h9_, h10_, h11_, h12_, h13_, h14_, h15_, h16_, h17_, h18_, h19_, h20_, h21_, h22_, h23_⟩
             have n0_ : Aside0 (w69.heap[gb283]? = some (.cells #[.int .i64 t274, .int .i64 t275, .int .i64 t276, .int .i64 t277, .bool t278, .bool t279, .bool t280, .bool t281] 29 (0, 0))) := ⟨h0_⟩
             have n1_ : Aside0 (w69.heap[gb292]? = some (.cells #[.int .i64 t284, .int .i64 t285, .int .i64 t286, .int .i64 t287, .bool t288, .bool t289, .bool t290, .bool t291] 29 (0, 0))) := ⟨h1_⟩
             have n2_ : Aside0 (w69.heap[gb322]? = some (.cells #[.int .i64 t313, .int .i64 t314, .int .i64 t315, .int .i64 t316, .bool t317, .bool t318, .bool t319, .bool t320] 29 (0, 0))) := ⟨h2_⟩
             have n3_ : Aside0 (w69.heap[gb339]? = some (.cells #[.int .i64 0, .int .i64 0, .int .i64 0, .int .i64 0, .bool false, .bool false, .bool false, .bool false] 29 (0, 0))) := ⟨h3_⟩
             have n4_ : Aside0 (w69.heap[gb340]? = some (.cells #[.int .i64 0, .int .i64 0, .int .i64 0, .int .i64 0, .bool false, .bool false, .bool false, .bool false] 29 (0, 0))) := ⟨h4_⟩
             have n5_ : Aside0 (w.heap.size ≤ gb339) := ⟨h5_⟩
             have n6_ : Aside0 (w.heap.size ≤ gb339) := ⟨h6_⟩
             have n7_ : Aside0 (gb283 ≠ gb339) := ⟨h7_⟩
             have n8_ : Aside0 (gb339 ≠ gb283) := ⟨h8_⟩
             have n9_ : Aside0 (gb292 ≠ gb339) := ⟨h9_⟩
             have n10_ : Aside0 (gb339 ≠ gb292) := ⟨h10_⟩
             have n11_ : Aside0 (gb322 ≠ gb339) := ⟨h11_⟩
             have n12_ : Aside0 (gb339 ≠ gb322) := ⟨h12_⟩
             have n13_ : Aside0 (gb340 ≠ gb339) := ⟨h13_⟩
             have n14_ : Aside0 (gb339 ≠ gb340) := ⟨h14_⟩
             have n15_ : Aside0 (w.heap.size ≤ gb340) := ⟨h15_⟩
             have n16_ : Aside0 (w.heap.size ≤ gb340) := ⟨h16_⟩
             have n17_ : Aside0 (gb283 ≠ gb340) := ⟨h17_⟩
             have n18_ : Aside0 (gb340 ≠ gb283) := ⟨h18_⟩
             have n19_ : Aside0 (gb292 ≠ gb340) := ⟨h19_⟩
             have n20_ : Aside0 (gb340 ≠ gb292) := ⟨h20_⟩
             have n21_ : Aside0 (gb322 ≠ gb340) := ⟨h21_⟩
             have n22_ : Aside0 (gb340 ≠ gb322) := ⟨h22_⟩
             have n23_ : Aside0 (Below w.heap.size w w69) := ⟨h23_⟩
             clear BK283; clear BK292; clear BK322; clear HB; clear h0_ h1_ h2_ h3_ h4_ h5_ h6_ h7_ h8_ h9_ h10_ h11_ h12_ h13_ h14_ h15_ h16_ h17_ h18_ h19_ h20_ h21_ h22_ h23_; have BK283 := n0_; have BK292 := n1_; have BK322 := n2_; have BK339 := n3_; have BK340 := n4_; have GW339 := n5_; have GE339 := n6_; have NB283_339 := n7_; have NB339_283 := n8_; have NB292_339 := n9_; have NB339_292 := n10_; have NB322_339 := n11_; have NB339_322 := n12_; have NB340_339 := n13_; have NB339_340 := n14_; have GW340 := n15_; have GE340 := n16_; have NB283_340 := n17_; have NB340_283 := n18_; have NB292_340 := n19_; have NB340_292 := n20_; have NB322_340 := n21_; have NB340_322 := n22_; have HB := n23_; clear n0_ n1_ n2_ n3_ n4_ n5_ n6_ n7_ n8_ n9_ n10_ n11_ n12_ n13_ n14_ n15_ n16_ n17_ n18_ n19_ n20_ n21_ n22_ n23_
             have hHeld : w69.cell? ⟨gb322, 0, none⟩ = some (.int .i64 t313) ∧ w69.cell? ⟨gb322, 1, none⟩ = some (.int .i64 t314) ∧ w69.cell? ⟨gb322, 2, none⟩ = some (.int .i64 t315) ∧ w69.cell? ⟨gb322, 3, none⟩ = some (.int .i64 t316) ∧ w69.cell? ⟨gb322, 4, none⟩ = some (.bool t317) ∧ w69.cell? ⟨gb322, 5, none⟩ = some (.bool t318) ∧ w69.cell? ⟨gb322, 6, none⟩ = some (.bool t319) ∧ w69.cell? ⟨gb322, 7, none⟩ = some (.bool t320) := hS_
             refine norm_ (a' := ?_) ?_ ?_
             rotate_left
             ·simp only [putAll, Act.put, List.setIfInBounds_toArray, List.set_cons_zero, List.set_cons_succ]
              rfl
             refine one_ (i := 8) (N := none) #[true, true, true, true, true, true, true, true, true, false] rfl rfl (one_of HT_.out (by kernel_rfl)) (by decide) (fun K hK => ?_)
             obtain ⟨⟨ra0, ra1, ra2, ra3, ra4, ra5, ra6, ra7⟩, ⟨fa0, fa1, fa2, fa3, fa4, fa5, fa6, fa7⟩⟩ := cellsF BK339.out
             refine skip_ (w1 := ?_) (by rfl) rfl ?_ ?_
             rotate_left
             ·go_simp
              rfl
             change K _ (sets8 w69 gb339 (.int .i64 t323) (.int .i64 t324) (.int .i64 t325) (.int .i64 t326) (.bool t327) (.bool t328) (.bool t329) (.bool t330))
             have M283 := Aside0.mk (sets8_far BK283.out NB283_339.out (.int .i64 t323) (.int .i64 t324) (.int .i64 t325) (.int .i64 t326) (.bool t327) (.bool t328) (.bool t329) (.bool t330))
             have M292 := Aside0.mk (sets8_far BK292.out NB292_339.out (.int .i64 t323) (.int .i64 t324) (.int .i64 t325) (.int .i64 t326) (.bool t327) (.bool t328) (.bool t329) (.bool t330))
             have M322 := Aside0.mk (sets8_far BK322.out NB322_339.out (.int .i64 t323) (.int .i64 t324) (.int .i64 t325) (.int .i64 t326) (.bool t327) (.bool t328) (.bool t329) (.bool t330))
             have M340 := Aside0.mk (sets8_far BK340.out NB340_339.out (.int .i64 t323) (.int .i64 t324) (.int .i64 t325) (.int .i64 t326) (.bool t327) (.bool t328) (.bool t329) (.bool t330))
             have M339 := Aside0.mk (sets8_put BK339.out (.int .i64 t323) (.int .i64 t324) (.int .i64 t325) (.int .i64 t326) (.bool t327) (.bool t328) (.bool t329) (.bool t330))
             have MB := Aside0.mk (sets8_below HB.out GE339.out (.int .i64 t323) (.int .i64 t324) (.int .i64 t325) (.int .i64 t326) (.bool t327) (.bool t328) (.bool t329) (.bool t330))
             clear ra0 ra1 ra2 ra3 ra4 ra5 ra6 ra7 fa0 fa1 fa2 fa3 fa4 fa5 fa6 fa7 hHeld HB BK283 BK292 BK322 BK340 BK339
             generalize sets8 w69 gb339 (.int .i64 t323) (.int .i64 t324) (.int .i64 t325) (.int .i64 t326) (.bool t327) (.bool t328) (.bool t329) (.bool t330) = w85 at M283 M292 M322 M340 M339 MB ⊢
             refine hK.out _ _ ⟨cl M322 0, cl M322 1, cl M322 2, cl M322 3, cl M322 4, cl M322 5, cl M322 6, cl M322 7⟩ (fun hHeld => ?_)
             clear hK K
             have BK283 := M283
             have BK292 := M292
             have BK322 := M322
             have BK340 := M340
             have BK339 := M339
             have HB := MB
             clear MB M283 M292 M322 M340 M339
             refine one_ (i := 9) (N := none) #[true, true, true, true, true, true, true, true, true, true] rfl rfl (one_of HT_.out (by kernel_rfl)) (by decide) (fun K hK => ?_)
             obtain ⟨⟨ra0, ra1, ra2, ra3, ra4, ra5, ra6, ra7⟩, ⟨fa0, fa1, fa2, fa3, fa4, fa5, fa6, fa7⟩⟩ := cellsF BK340.out
             refine skip_ (w1 := ?_) (by rfl) rfl ?_ ?_
             rotate_left
             ·go_simp
              rfl
             change K _ (sets8 w85 gb340 (.int .i64 t331) (.int .i64 t332) (.int .i64 t333) (.int .i64 t334) (.bool t335) (.bool t336) (.bool t337) (.bool t338))
             have M283 := Aside0.mk (sets8_far BK283.out NB283_340.out (.int .i64 t331) (.int .i64 t332) (.int .i64 t333) (.int .i64 t334) (.bool t335) (.bool t336) (.bool t337) (.bool t338))
             have M292 := Aside0.mk (sets8_far BK292.out NB292_340.out (.int .i64 t331) (.int .i64 t332) (.int .i64 t333) (.int .i64 t334) (.bool t335) (.bool t336) (.bool t337) (.bool t338))
             have M322 := Aside0.mk (sets8_far BK322.out NB322_340.out (.int .i64 t331) (.int .i64 t332) (.int .i64 t333) (.int .i64 t334) (.bool t335) (.bool t336) (.bool t337) (.bool t338))
             have M339 := Aside0.mk (sets8_far BK339.out NB339_340.out (.int .i64 t331) (.int .i64 t332) (.int .i64 t333) (.int .i64 t334) (.bool t335) (.bool t336) (.bool t337) (.bool t338))
             have M340 := Aside0.mk (sets8_put BK340.out (.int .i64 t331) (.int .i64 t332) (.int .i64 t333) (.int .i64 t334) (.bool t335) (.bool t336) (.bool t337) (.bool t338))
             have MB := Aside0.mk (sets8_below HB.out GE340.out (.int .i64 t331) (.int .i64 t332) (.int .i64 t333) (.int .i64 t334) (.bool t335) (.bool t336) (.bool t337) (.bool t338))
             clear ra0 ra1 ra2 ra3 ra4 ra5 ra6 ra7 fa0 fa1 fa2 fa3 fa4 fa5 fa6 fa7 hHeld HB BK283 BK292 BK322 BK339 BK340
             generalize sets8 w85 gb340 (.int .i64 t331) (.int .i64 t332) (.int .i64 t333) (.int .i64 t334) (.bool t335) (.bool t336) (.bool t337) (.bool t338) = w86 at M283 M292 M322 M339 M340 MB ⊢
             refine hK.out _ _ ⟨cl M322 0, cl M322 1, cl M322 2, cl M322 3, cl M322 4, cl M322 5, cl M322 6, cl M322 7⟩ (fun hHeld => ?_)
             clear hK K
             have BK283 := M283
             have BK292 := M292
             have BK322 := M322
             have BK339 := M339
             have BK340 := M340
             have HB := MB
             clear MB M283 M292 M322 M339 M340
             refine done_ (done_of HT_.out (by kernel_rfl)) ?_
             try go_wp2
             obtain ⟨ca0, ca1, ca2, ca3, ca4, ca5⟩ := cells8 BK339.out
             obtain ⟨cb0, cb1, cb2, cb3, cb4, cb5⟩ := cells8 BK340.out
             obtain ⟨cc0, cc1, cc2, cc3, cc4, cc5⟩ := cells8 BK322.out
             obtain ⟨cd0, cd1, cd2, cd3, cd4, cd5⟩ := cells8 BK292.out
             obtain ⟨ce0, ce1, ce2, ce3, ce4, ce5⟩ := cells8 BK283.out
             go_quiet (first | (go_at_call 47; refine (impl_Byte.calls t321 t341 _ A48.out).mono ?_; rintro e wq ⟨rfl, nd, rfl⟩; exact ⟨rfl, _, World.drewN_drewN _ _ _⟩))
             try go_wp2
             go_ret
             exact ⟨rt, bw HB.out⟩
            ·rw [if_neg c57] at H
             have c57b0 : (t284 == t274) = false := beq_eq_false_iff_ne.mpr c57
             have c57b1 : (t284 != t274) = true := bne_iff_ne.mpr c57
             exact absurd ((Option.some.inj H).trans hrt) (by decide)
           ·rw [if_neg c56] at H
            have c56b0 : (t329 == t319) = false := by simpa using c56
            (try (have c56b1 : decide (t329 = t319) = false := by simpa using c56))
            (try (have c56b2 : (t329 == t319) = false := by simpa using c56))
            (try (have c56b3 : ¬ (t329 = t319) := by simpa using c56))
            clear c56
            exact absurd ((Option.some.inj H).trans hrt) (by decide)
          ·rw [if_neg c55] at H
           have c55b0 : (t336 == (decide (t332 > 127))) = false := by simpa using c55
           (try (have c55b1 : decide (t336 = (decide (t332 > 127))) = false := by simpa using c55))
           (try (have c55b2 : (t336 == (decide (t332 > 127))) = false := by simpa using c55))
           (try (have c55b3 : ¬ (t336 = (decide (t332 > 127))) := by simpa using c55))
           clear c55
           exact absurd ((Option.some.inj H).trans hrt) (by decide)
         ·rw [if_neg c54] at H
          have c54b0 : (t327 == (t323 == 0)) = false := by simpa using c54
          (try (have c54b1 : decide (t327 = (t323 == 0)) = false := by simpa using c54))
          (try (have c54b2 : (t327 == (t323 == 0)) = false := by simpa using c54))
          (try (have c54b3 : ¬ (t327 = (t323 == 0)) := by simpa using c54))
          clear c54
          exact absurd ((Option.some.inj H).trans hrt) (by decide)
        ·rw [if_neg c53] at H
         have c53b0 : (t331 == t313) = false := beq_eq_false_iff_ne.mpr c53
         have c53b1 : (t331 != t313) = true := bne_iff_ne.mpr c53
         exact absurd ((Option.some.inj H).trans hrt) (by decide)
       ·rw [if_neg c52] at H
        have c52b0 : (t324 == t314) = false := beq_eq_false_iff_ne.mpr c52
        have c52b1 : (t324 != t314) = true := bne_iff_ne.mpr c52
        exact absurd ((Option.some.inj H).trans hrt) (by decide)
      ·rw [if_neg c51] at H
       have c51b0 : (t332 == t341) = false := beq_eq_false_iff_ne.mpr c51
       have c51b1 : (t332 != t341) = true := bne_iff_ne.mpr c51
       exact absurd ((Option.some.inj H).trans hrt) (by decide)
     ·rw [if_neg c49] at H
      have c49b0 : (t323 == t341) = false := beq_eq_false_iff_ne.mpr c49
      have c49b1 : (t323 != t341) = true := bne_iff_ne.mpr c49
      exact absurd ((Option.some.inj H).trans hrt) (by decide)

end Go.Proofs.Ytcdfkemhigmnlaa.MFnFlags
