/- Walks of functions that the law FnCalled reaches: each comes to just what its Lean function says. (Begun as the texts that print.sh wrote for this claim; some of them, and those that it does not write, are mine.) No condition. -/
import Derived.Test.YtmkccgbfgebfbaaMFnCalledx6
namespace Go.Proofs.Ytmkccgbfgebfbaa.MFnCalled
open Go.RowKit Go.Proofs.YtmkccgbfgebfbaaW.PrintWords Go.Proofs.YtmkccgbfgebfbaaW.PrintLast Go.Proofs.YtmkccgbfgebfbaaW.PrintMore
attribute [local go_sem] max2_int min2_int max_two min_two max_three min_three max_four min_four   -- for this text's walks alone
set_option maxHeartbeats 8000000
set_option maxRecDepth 100000
set_option linter.unusedVariables false
set_option linter.unusedSimpArgs false

/-! ### laws_FnCalled: function 7 -/
mutual
def laws_FnCalled.j0 : Nat → Bool → List Int → Int → Int → Int → Int → Int → Bool → Bool → Bool → Bool → Int → Int → Option (Bool)
 | 0, _, _, _, _, _, _, _, _, _, _, _, _, _ => none
 | k + 1, x61, x980000, x980001, x981000, x981001, x981002, x981003, x981004, x981005, x981006, x981007, x982000, x982001 => if x61 = true then (some false) else (if (x980000.length : Int) = 512 then ((spec_CpuOk.f x981000 x981001 x981002 x981003 x981004 x981005 x981006 x981007).bind fun t1011 => (laws_FnCalled.j1 k (!t1011) x980000 x980001 x981000 x981001 x981002 x981003 x981004 x981005 x981006 x981007 x982000 x982001)) else (laws_FnCalled.j1 k true x980000 x980001 x981000 x981001 x981002 x981003 x981004 x981005 x981006 x981007 x982000 x982001))
def laws_FnCalled.j1 : Nat → Bool → List Int → Int → Int → Int → Int → Int → Bool → Bool → Bool → Bool → Int → Int → Option (Bool)
 | 0, _, _, _, _, _, _, _, _, _, _, _, _, _ => none
 | k + 1, x70, x980000, x980001, x981000, x981001, x981002, x981003, x981004, x981005, x981006, x981007, x982000, x982001 => if x70 = true then (some true) else ((impl_OpOf.f k (⟨#[106, 115, 114]⟩ : ByteArray)).bind fun t1012 => ((impl_Exec.f k x980000 x980001 x981000 x981001 x981002 x981003 x981004 x981005 x981006 x981007 t1012 x982001 0).bind fun bt1013 => ((impl_OpOf.f k (⟨#[114, 116, 115]⟩ : ByteArray)).bind fun t1027 => ((impl_Exec.f k bt1013.1 bt1013.2.1 bt1013.2.2.1 bt1013.2.2.2.1 bt1013.2.2.2.2.1 bt1013.2.2.2.2.2.1 bt1013.2.2.2.2.2.2.1 bt1013.2.2.2.2.2.2.2.1 bt1013.2.2.2.2.2.2.2.2.1 bt1013.2.2.2.2.2.2.2.2.2 t1027 0 0).bind fun bt1028 => ((impl_OpOf.f k (⟨#[112, 104, 97]⟩ : ByteArray)).bind fun t1042 => ((impl_Exec.f k x980000 x980001 x981000 x981001 x981002 x981003 x981004 x981005 x981006 x981007 t1042 0 0).bind fun bt1043 => ((impl_OpOf.f k (⟨#[112, 108, 97]⟩ : ByteArray)).bind fun t1057 => ((impl_Exec.f k bt1043.1 bt1043.2.1 bt1043.2.2.1 bt1043.2.2.2.1 bt1043.2.2.2.2.1 bt1043.2.2.2.2.2.1 bt1043.2.2.2.2.2.2.1 bt1043.2.2.2.2.2.2.2.1 bt1043.2.2.2.2.2.2.2.2.1 bt1043.2.2.2.2.2.2.2.2.2 t1057 0 0).bind fun bt1058 => ((impl_Addr.f x982001).bind fun t1072 => (if bt1013.2.2.2.2.2.1 = t1072 then ((impl_Addr.f (wrap64 (x981003 + 3))).bind fun t1073 => (if bt1028.2.2.2.2.2.1 = t1073 then (if bt1028.2.2.2.2.1 = x981002 then (if bt1058.2.2.1 = x981000 then (some (bt1058.2.2.2.2.1 == x981002)) else (some false)) else (some false)) else (some false))) else (some false)))))))))))
end
def laws_FnCalled.f (k : Nat) (l0 : List Int) : Option (Bool) := (laws_big.f l0).bind fun t963 => (if t963 = true then (some true) else ((spec_DrawExec.f k l0).bind fun bt964 => ((impl_Exec.f k bt964.1 bt964.2.1 bt964.2.2.1 bt964.2.2.2.1 bt964.2.2.2.2.1 bt964.2.2.2.2.2.1 bt964.2.2.2.2.2.2.1 bt964.2.2.2.2.2.2.2.1 bt964.2.2.2.2.2.2.2.2.1 bt964.2.2.2.2.2.2.2.2.2.1 bt964.2.2.2.2.2.2.2.2.2.2.1 bt964.2.2.2.2.2.2.2.2.2.2.2.1 bt964.2.2.2.2.2.2.2.2.2.2.2.2).bind fun bt982 => ((spec_Exec.f k bt964.1 bt964.2.1 bt964.2.2.1 bt964.2.2.2.1 bt964.2.2.2.2.1 bt964.2.2.2.2.2.1 bt964.2.2.2.2.2.2.1 bt964.2.2.2.2.2.2.2.1 bt964.2.2.2.2.2.2.2.2.1 bt964.2.2.2.2.2.2.2.2.2.1 bt964.2.2.2.2.2.2.2.2.2.2.1 bt964.2.2.2.2.2.2.2.2.2.2.2.1 bt964.2.2.2.2.2.2.2.2.2.2.2.2).bind fun bt996 => (if (!(bt982.2.2.1 == bt996.2.2.1) || (!(bt982.2.2.2.1 == bt996.2.2.2.1) || (!(bt982.2.2.2.2.1 == bt996.2.2.2.2.1) || (!(bt982.2.2.2.2.2.1 == bt996.2.2.2.2.2.1) || (!(bt982.2.2.2.2.2.2.1 == bt996.2.2.2.2.2.2.1) || (!(bt982.2.2.2.2.2.2.2.1 == bt996.2.2.2.2.2.2.2.1) || (!(bt982.2.2.2.2.2.2.2.2.1 == bt996.2.2.2.2.2.2.2.2.1) || (!(bt982.2.2.2.2.2.2.2.2.2 == bt996.2.2.2.2.2.2.2.2.2))))))))) = true then (laws_FnCalled.j0 k true bt964.1 bt964.2.1 bt964.2.2.1 bt964.2.2.2.1 bt964.2.2.2.2.1 bt964.2.2.2.2.2.1 bt964.2.2.2.2.2.2.1 bt964.2.2.2.2.2.2.2.1 bt964.2.2.2.2.2.2.2.2.1 bt964.2.2.2.2.2.2.2.2.2.1 bt964.2.2.2.2.2.2.2.2.2.2.1 bt964.2.2.2.2.2.2.2.2.2.2.2.1) else ((laws_sameInts.f k bt982.1 bt996.1).bind fun t1010 => (if t1010 = true then (laws_FnCalled.j0 k (bt982.2.1 != bt996.2.1) bt964.1 bt964.2.1 bt964.2.2.1 bt964.2.2.2.1 bt964.2.2.2.2.1 bt964.2.2.2.2.2.1 bt964.2.2.2.2.2.2.1 bt964.2.2.2.2.2.2.2.1 bt964.2.2.2.2.2.2.2.2.1 bt964.2.2.2.2.2.2.2.2.2.1 bt964.2.2.2.2.2.2.2.2.2.2.1 bt964.2.2.2.2.2.2.2.2.2.2.2.1) else (laws_FnCalled.j0 k true bt964.1 bt964.2.1 bt964.2.2.1 bt964.2.2.2.1 bt964.2.2.2.2.1 bt964.2.2.2.2.2.1 bt964.2.2.2.2.2.2.1 bt964.2.2.2.2.2.2.2.1 bt964.2.2.2.2.2.2.2.2.1 bt964.2.2.2.2.2.2.2.2.2.1 bt964.2.2.2.2.2.2.2.2.2.2.1 bt964.2.2.2.2.2.2.2.2.2.2.2.1))))))))
def laws_FnCalled.T10 : Bool × List (List Nat × List Nat) := (true, [([], []), ([], []), ([], []), ([], []), ([3], [3]), ([2, 4], [2, 4]), ([0, 1, 5, 2], [0, 1, 5]), ([6], [6]), ([7], [7]), ([7], [7]), ([], []), ([], []), ([10, 8, 6, 0, 1, 2, 3, 4, 5, 6, 7, 8, 10, 11], [8, 10]), ([11, 9, 12, 0, 1, 2, 3, 4, 5, 6, 7, 8, 9, 10, 11, 12], [9, 11])])
def laws_FnCalled.B10 : List Nat := [0, 0, 0, 0, 8, 28, 63, 127, 255, 255, 0, 0, 3583, 8191]
theorem laws_FnCalled.tab10 : rtab .any (opsOf Try.f7 10) = laws_FnCalled.T10 := by kernel_rfl
theorem laws_FnCalled.bits10 : waitsOk laws_FnCalled.T10.2 laws_FnCalled.B10 = true := by kernel_rfl
def laws_FnCalled.T11 : Bool × List (List Nat × List Nat) := (true, [([], []), ([], []), ([], []), ([2], [2]), ([0, 1, 3, 2], [0, 1, 3]), ([4], [4]), ([5], [5]), ([5], [5]), ([], []), ([], []), ([8, 6, 4, 0, 1, 2, 3, 4, 5, 6, 8, 9], [6, 8]), ([9, 7, 10, 0, 1, 2, 3, 4, 5, 6, 7, 8, 9, 10], [7, 9])])
def laws_FnCalled.B11 : List Nat := [0, 0, 0, 4, 15, 31, 63, 63, 0, 0, 895, 2047]
theorem laws_FnCalled.tab11 : rtab .any (opsOf Try.f7 11) = laws_FnCalled.T11 := by kernel_rfl
theorem laws_FnCalled.bits11 : waitsOk laws_FnCalled.T11.2 laws_FnCalled.B11 = true := by kernel_rfl
def laws_FnCalled.T12 : Bool × List (List Nat × List Nat) := (true, [([], []), ([], []), ([], []), ([2], [2]), ([0, 1, 3, 2], [0, 1, 3]), ([4], [4]), ([5], [5]), ([5], [5]), ([], []), ([], []), ([8, 6, 4, 0, 1, 2, 3, 4, 5, 6, 8, 9], [6, 8]), ([9, 7, 10, 0, 1, 2, 3, 4, 5, 6, 7, 8, 9, 10], [7, 9])])
def laws_FnCalled.B12 : List Nat := [0, 0, 0, 4, 15, 31, 63, 63, 0, 0, 895, 2047]
theorem laws_FnCalled.tab12 : rtab .any (opsOf Try.f7 12) = laws_FnCalled.T12 := by kernel_rfl
theorem laws_FnCalled.bits12 : waitsOk laws_FnCalled.T12.2 laws_FnCalled.B12 = true := by kernel_rfl
def laws_FnCalled.T13 : Bool × List (List Nat × List Nat) := (true, [([], []), ([], []), ([], []), ([2], [2]), ([0, 1, 3, 2], [0, 1, 3]), ([4], [4]), ([5], [5]), ([5], [5]), ([], []), ([], []), ([8, 6, 4, 0, 1, 2, 3, 4, 5, 6, 8, 9], [6, 8]), ([9, 7, 10, 0, 1, 2, 3, 4, 5, 6, 7, 8, 9, 10], [7, 9])])
def laws_FnCalled.B13 : List Nat := [0, 0, 0, 4, 15, 31, 63, 63, 0, 0, 895, 2047]
theorem laws_FnCalled.tab13 : rtab .any (opsOf Try.f7 13) = laws_FnCalled.T13 := by kernel_rfl
theorem laws_FnCalled.bits13 : waitsOk laws_FnCalled.T13.2 laws_FnCalled.B13 = true := by kernel_rfl
def laws_FnCalled.T14 : Bool × List (List Nat × List Nat) := (true, [([], []), ([0], [0]), ([], []), ([2], [2]), ([3], [3]), ([1, 4], [1, 4]), ([5, 4], [5]), ([6], [6]), ([7, 6], [6, 7]), ([6], [6]), ([9, 6], [6, 9]), ([10, 6], [6, 10]), ([11, 6, 6], [6, 11]), ([8, 12, 6], [6, 8, 12]), ([6, 13], [6, 13]), ([14, 12], [14]), ([15], [15]), ([16, 15], [15, 16]), ([15], [15]), ([18, 15], [15, 18]), ([17, 19, 15], [15, 17, 19]), ([15, 20], [15, 20]), ([21, 15], [21]), ([22], [22]), ([23, 22], [22, 23]), ([22], [22]), ([25, 22], [22, 25]), ([24, 26, 22], [22, 24, 26]), ([22, 27], [22, 27]), ([28, 22], [28]), ([29], [29]), ([30, 29], [29, 30]), ([29], [29]), ([32, 29], [29, 32]), ([31, 33, 29], [29, 31, 33]), ([29, 34], [29, 34]), ([35, 29, 0, 1, 2, 3, 4, 5, 6, 7, 8, 9, 10, 11, 12, 13, 14, 15, 16, 17, 18, 19, 20, 21, 22, 23, 24, 25, 26, 27, 28, 29, 30, 31, 32, 33, 34, 35], [35])])
def laws_FnCalled.B14 : List Nat := [0, 1, 0, 4, 12, 31, 63, 127, 255, 127, 639, 1663, 3711, 8191, 16383, 32767, 65535, 131071, 65535, 327679, 1048575, 2097151, 4194303, 8388607, 16777215, 8388607, 41943039, 134217727, 268435455, 536870911, 1073741823, 2147483647, 1073741823, 5368709119, 17179869183, 34359738367, 68719476735]
theorem laws_FnCalled.tab14 : rtab .any (opsOf Try.f7 14) = laws_FnCalled.T14 := by kernel_rfl
theorem laws_FnCalled.bits14 : waitsOk laws_FnCalled.T14.2 laws_FnCalled.B14 = true := by kernel_rfl
theorem laws_FnCalled.calls (k : Nat) (A0 : Option Addr) (c0 : Nat) (l0 : List Int) (r : Bool) (w : World) (hr0 : Kd.C (Kd.int .u8) w A0 l0.length l0) (hc0 : l0.length ≤ c0) (h : laws_FnCalled.f k l0 = some r) (hrt : r = true) :
  Calls Try.prog 7 #[.slice A0 l0.length c0] w fun e w' => e = .returned (.bool r) ∧ Below w.heap.size w w' := by
 have hu32 := Try.underlying32
 have hu55 := Try.underlying55
 have hu51 := Try.underlying51
 have HR0 := am hr0
 have HC0 := am hc0
 clear hr0 hc0
 have HB := am (Below.refl w.heap.size w)
 have H : ((laws_big.f l0).bind fun t963 => (if t963 = true then (some true) else ((spec_DrawExec.f k l0).bind fun bt964 => ((impl_Exec.f k bt964.1 bt964.2.1 bt964.2.2.1 bt964.2.2.2.1 bt964.2.2.2.2.1 bt964.2.2.2.2.2.1 bt964.2.2.2.2.2.2.1 bt964.2.2.2.2.2.2.2.1 bt964.2.2.2.2.2.2.2.2.1 bt964.2.2.2.2.2.2.2.2.2.1 bt964.2.2.2.2.2.2.2.2.2.2.1 bt964.2.2.2.2.2.2.2.2.2.2.2.1 bt964.2.2.2.2.2.2.2.2.2.2.2.2).bind fun bt982 => ((spec_Exec.f k bt964.1 bt964.2.1 bt964.2.2.1 bt964.2.2.2.1 bt964.2.2.2.2.1 bt964.2.2.2.2.2.1 bt964.2.2.2.2.2.2.1 bt964.2.2.2.2.2.2.2.1 bt964.2.2.2.2.2.2.2.2.1 bt964.2.2.2.2.2.2.2.2.2.1 bt964.2.2.2.2.2.2.2.2.2.2.1 bt964.2.2.2.2.2.2.2.2.2.2.2.1 bt964.2.2.2.2.2.2.2.2.2.2.2.2).bind fun bt996 => (if (!(bt982.2.2.1 == bt996.2.2.1) || (!(bt982.2.2.2.1 == bt996.2.2.2.1) || (!(bt982.2.2.2.2.1 == bt996.2.2.2.2.1) || (!(bt982.2.2.2.2.2.1 == bt996.2.2.2.2.2.1) || (!(bt982.2.2.2.2.2.2.1 == bt996.2.2.2.2.2.2.1) || (!(bt982.2.2.2.2.2.2.2.1 == bt996.2.2.2.2.2.2.2.1) || (!(bt982.2.2.2.2.2.2.2.2.1 == bt996.2.2.2.2.2.2.2.2.1) || (!(bt982.2.2.2.2.2.2.2.2.2 == bt996.2.2.2.2.2.2.2.2.2))))))))) = true then (laws_FnCalled.j0 k true bt964.1 bt964.2.1 bt964.2.2.1 bt964.2.2.2.1 bt964.2.2.2.2.1 bt964.2.2.2.2.2.1 bt964.2.2.2.2.2.2.1 bt964.2.2.2.2.2.2.2.1 bt964.2.2.2.2.2.2.2.2.1 bt964.2.2.2.2.2.2.2.2.2.1 bt964.2.2.2.2.2.2.2.2.2.2.1 bt964.2.2.2.2.2.2.2.2.2.2.2.1) else ((laws_sameInts.f k bt982.1 bt996.1).bind fun t1010 => (if t1010 = true then (laws_FnCalled.j0 k (bt982.2.1 != bt996.2.1) bt964.1 bt964.2.1 bt964.2.2.1 bt964.2.2.2.1 bt964.2.2.2.2.1 bt964.2.2.2.2.2.1 bt964.2.2.2.2.2.2.1 bt964.2.2.2.2.2.2.2.1 bt964.2.2.2.2.2.2.2.2.1 bt964.2.2.2.2.2.2.2.2.2.1 bt964.2.2.2.2.2.2.2.2.2.2.1 bt964.2.2.2.2.2.2.2.2.2.2.2.1) else (laws_FnCalled.j0 k true bt964.1 bt964.2.1 bt964.2.2.1 bt964.2.2.2.1 bt964.2.2.2.2.1 bt964.2.2.2.2.2.1 bt964.2.2.2.2.2.2.1 bt964.2.2.2.2.2.2.2.1 bt964.2.2.2.2.2.2.2.2.1 bt964.2.2.2.2.2.2.2.2.2.1 bt964.2.2.2.2.2.2.2.2.2.2.1 bt964.2.2.2.2.2.2.2.2.2.2.2.1))))))))) = some r := h
 clear h
 replace H := bs H
 obtain ⟨t963, A20, H⟩ := H
 replace H : (if t963 = true then (some true) else ((spec_DrawExec.f k l0).bind fun bt964 => ((impl_Exec.f k bt964.1 bt964.2.1 bt964.2.2.1 bt964.2.2.2.1 bt964.2.2.2.2.1 bt964.2.2.2.2.2.1 bt964.2.2.2.2.2.2.1 bt964.2.2.2.2.2.2.2.1 bt964.2.2.2.2.2.2.2.2.1 bt964.2.2.2.2.2.2.2.2.2.1 bt964.2.2.2.2.2.2.2.2.2.2.1 bt964.2.2.2.2.2.2.2.2.2.2.2.1 bt964.2.2.2.2.2.2.2.2.2.2.2.2).bind fun bt982 => ((spec_Exec.f k bt964.1 bt964.2.1 bt964.2.2.1 bt964.2.2.2.1 bt964.2.2.2.2.1 bt964.2.2.2.2.2.1 bt964.2.2.2.2.2.2.1 bt964.2.2.2.2.2.2.2.1 bt964.2.2.2.2.2.2.2.2.1 bt964.2.2.2.2.2.2.2.2.2.1 bt964.2.2.2.2.2.2.2.2.2.2.1 bt964.2.2.2.2.2.2.2.2.2.2.2.1 bt964.2.2.2.2.2.2.2.2.2.2.2.2).bind fun bt996 => (if (!(bt982.2.2.1 == bt996.2.2.1) || (!(bt982.2.2.2.1 == bt996.2.2.2.1) || (!(bt982.2.2.2.2.1 == bt996.2.2.2.2.1) || (!(bt982.2.2.2.2.2.1 == bt996.2.2.2.2.2.1) || (!(bt982.2.2.2.2.2.2.1 == bt996.2.2.2.2.2.2.1) || (!(bt982.2.2.2.2.2.2.2.1 == bt996.2.2.2.2.2.2.2.1) || (!(bt982.2.2.2.2.2.2.2.2.1 == bt996.2.2.2.2.2.2.2.2.1) || (!(bt982.2.2.2.2.2.2.2.2.2 == bt996.2.2.2.2.2.2.2.2.2))))))))) = true then (laws_FnCalled.j0 k true bt964.1 bt964.2.1 bt964.2.2.1 bt964.2.2.2.1 bt964.2.2.2.2.1 bt964.2.2.2.2.2.1 bt964.2.2.2.2.2.2.1 bt964.2.2.2.2.2.2.2.1 bt964.2.2.2.2.2.2.2.2.1 bt964.2.2.2.2.2.2.2.2.2.1 bt964.2.2.2.2.2.2.2.2.2.2.1 bt964.2.2.2.2.2.2.2.2.2.2.2.1) else ((laws_sameInts.f k bt982.1 bt996.1).bind fun t1010 => (if t1010 = true then (laws_FnCalled.j0 k (bt982.2.1 != bt996.2.1) bt964.1 bt964.2.1 bt964.2.2.1 bt964.2.2.2.1 bt964.2.2.2.2.1 bt964.2.2.2.2.2.1 bt964.2.2.2.2.2.2.1 bt964.2.2.2.2.2.2.2.1 bt964.2.2.2.2.2.2.2.2.1 bt964.2.2.2.2.2.2.2.2.2.1 bt964.2.2.2.2.2.2.2.2.2.2.1 bt964.2.2.2.2.2.2.2.2.2.2.2.1) else (laws_FnCalled.j0 k true bt964.1 bt964.2.1 bt964.2.2.1 bt964.2.2.2.1 bt964.2.2.2.2.1 bt964.2.2.2.2.2.1 bt964.2.2.2.2.2.2.1 bt964.2.2.2.2.2.2.2.1 bt964.2.2.2.2.2.2.2.2.1 bt964.2.2.2.2.2.2.2.2.2.1 bt964.2.2.2.2.2.2.2.2.2.2.1 bt964.2.2.2.2.2.2.2.2.2.2.2.1)))))))) = some r := H
 have A2 := am A20
 clear A20
 by_cases c3 : t963 = true
 ·subst c3
  have H1 : (some true) = some r := by rw [if_pos rfl] at H; exact H
  clear H
  have H := H1
  clear H1
  obtain rfl := oj H
  go_enter Try.func7, Try.ntmps7
  go_wp2_with (first | ((with_reducible refine gate_callee (f := 9) rfl ?_); refine goesM_ (some 20) rfl rfl Try.func9 #[.slice A0 l0.length c0] ?_; (with_reducible refine (laws_big.calls _ _ l0 true _ ?side1 ?side2 A2.out).mono ?_); (case side1 => exact kc HR0.out); (case side2 => exact HC0.out); rintro e w' ⟨rfl, ⟨nd, rfl⟩⟩; refine ⟨_, rfl, ?_⟩))
  go_ret
  exact ⟨rt, bw HB.out⟩
 ·replace c3 := Bool.eq_false_iff.mpr c3
  subst c3
  have H1 : ((spec_DrawExec.f k l0).bind fun bt964 => ((impl_Exec.f k bt964.1 bt964.2.1 bt964.2.2.1 bt964.2.2.2.1 bt964.2.2.2.2.1 bt964.2.2.2.2.2.1 bt964.2.2.2.2.2.2.1 bt964.2.2.2.2.2.2.2.1 bt964.2.2.2.2.2.2.2.2.1 bt964.2.2.2.2.2.2.2.2.2.1 bt964.2.2.2.2.2.2.2.2.2.2.1 bt964.2.2.2.2.2.2.2.2.2.2.2.1 bt964.2.2.2.2.2.2.2.2.2.2.2.2).bind fun bt982 => ((spec_Exec.f k bt964.1 bt964.2.1 bt964.2.2.1 bt964.2.2.2.1 bt964.2.2.2.2.1 bt964.2.2.2.2.2.1 bt964.2.2.2.2.2.2.1 bt964.2.2.2.2.2.2.2.1 bt964.2.2.2.2.2.2.2.2.1 bt964.2.2.2.2.2.2.2.2.2.1 bt964.2.2.2.2.2.2.2.2.2.2.1 bt964.2.2.2.2.2.2.2.2.2.2.2.1 bt964.2.2.2.2.2.2.2.2.2.2.2.2).bind fun bt996 => (if (!(bt982.2.2.1 == bt996.2.2.1) || (!(bt982.2.2.2.1 == bt996.2.2.2.1) || (!(bt982.2.2.2.2.1 == bt996.2.2.2.2.1) || (!(bt982.2.2.2.2.2.1 == bt996.2.2.2.2.2.1) || (!(bt982.2.2.2.2.2.2.1 == bt996.2.2.2.2.2.2.1) || (!(bt982.2.2.2.2.2.2.2.1 == bt996.2.2.2.2.2.2.2.1) || (!(bt982.2.2.2.2.2.2.2.2.1 == bt996.2.2.2.2.2.2.2.2.1) || (!(bt982.2.2.2.2.2.2.2.2.2 == bt996.2.2.2.2.2.2.2.2.2))))))))) = true then (laws_FnCalled.j0 k true bt964.1 bt964.2.1 bt964.2.2.1 bt964.2.2.2.1 bt964.2.2.2.2.1 bt964.2.2.2.2.2.1 bt964.2.2.2.2.2.2.1 bt964.2.2.2.2.2.2.2.1 bt964.2.2.2.2.2.2.2.2.1 bt964.2.2.2.2.2.2.2.2.2.1 bt964.2.2.2.2.2.2.2.2.2.2.1 bt964.2.2.2.2.2.2.2.2.2.2.2.1) else ((laws_sameInts.f k bt982.1 bt996.1).bind fun t1010 => (if t1010 = true then (laws_FnCalled.j0 k (bt982.2.1 != bt996.2.1) bt964.1 bt964.2.1 bt964.2.2.1 bt964.2.2.2.1 bt964.2.2.2.2.1 bt964.2.2.2.2.2.1 bt964.2.2.2.2.2.2.1 bt964.2.2.2.2.2.2.2.1 bt964.2.2.2.2.2.2.2.2.1 bt964.2.2.2.2.2.2.2.2.2.1 bt964.2.2.2.2.2.2.2.2.2.2.1 bt964.2.2.2.2.2.2.2.2.2.2.2.1) else (laws_FnCalled.j0 k true bt964.1 bt964.2.1 bt964.2.2.1 bt964.2.2.2.1 bt964.2.2.2.2.1 bt964.2.2.2.2.2.1 bt964.2.2.2.2.2.2.1 bt964.2.2.2.2.2.2.2.1 bt964.2.2.2.2.2.2.2.2.1 bt964.2.2.2.2.2.2.2.2.2.1 bt964.2.2.2.2.2.2.2.2.2.2.1 bt964.2.2.2.2.2.2.2.2.2.2.2.1))))))) = some r := by rw [if_neg (show ¬ (false = true) by decide)] at H; exact H
  clear H
  have H := H1
  clear H1
  replace H := bs H
  obtain ⟨⟨t964, t967, t968, t969, t970, t971, t972, t973, t974, t975, t976, t977, t978⟩, A40, H⟩ := H
  replace H : ((impl_Exec.f k t964 t967 t968 t969 t970 t971 t972 t973 t974 t975 t976 t977 t978).bind fun bt982 => ((spec_Exec.f k t964 t967 t968 t969 t970 t971 t972 t973 t974 t975 t976 t977 t978).bind fun bt996 => (if (!(bt982.2.2.1 == bt996.2.2.1) || (!(bt982.2.2.2.1 == bt996.2.2.2.1) || (!(bt982.2.2.2.2.1 == bt996.2.2.2.2.1) || (!(bt982.2.2.2.2.2.1 == bt996.2.2.2.2.2.1) || (!(bt982.2.2.2.2.2.2.1 == bt996.2.2.2.2.2.2.1) || (!(bt982.2.2.2.2.2.2.2.1 == bt996.2.2.2.2.2.2.2.1) || (!(bt982.2.2.2.2.2.2.2.2.1 == bt996.2.2.2.2.2.2.2.2.1) || (!(bt982.2.2.2.2.2.2.2.2.2 == bt996.2.2.2.2.2.2.2.2.2))))))))) = true then (laws_FnCalled.j0 k true t964 t967 t968 t969 t970 t971 t972 t973 t974 t975 t976 t977) else ((laws_sameInts.f k bt982.1 bt996.1).bind fun t1010 => (if t1010 = true then (laws_FnCalled.j0 k (bt982.2.1 != bt996.2.1) t964 t967 t968 t969 t970 t971 t972 t973 t974 t975 t976 t977) else (laws_FnCalled.j0 k true t964 t967 t968 t969 t970 t971 t972 t973 t974 t975 t976 t977)))))) = some r := H
  have A4 := am A40
  clear A40
  replace H := bs H
  obtain ⟨⟨t982, t985, t986, t987, t988, t989, t990, t991, t992, t993⟩, A50, H⟩ := H
  replace H : ((spec_Exec.f k t964 t967 t968 t969 t970 t971 t972 t973 t974 t975 t976 t977 t978).bind fun bt996 => (if (!(t986 == bt996.2.2.1) || (!(t987 == bt996.2.2.2.1) || (!(t988 == bt996.2.2.2.2.1) || (!(t989 == bt996.2.2.2.2.2.1) || (!(t990 == bt996.2.2.2.2.2.2.1) || (!(t991 == bt996.2.2.2.2.2.2.2.1) || (!(t992 == bt996.2.2.2.2.2.2.2.2.1) || (!(t993 == bt996.2.2.2.2.2.2.2.2.2))))))))) = true then (laws_FnCalled.j0 k true t964 t967 t968 t969 t970 t971 t972 t973 t974 t975 t976 t977) else ((laws_sameInts.f k t982 bt996.1).bind fun t1010 => (if t1010 = true then (laws_FnCalled.j0 k (t985 != bt996.2.1) t964 t967 t968 t969 t970 t971 t972 t973 t974 t975 t976 t977) else (laws_FnCalled.j0 k true t964 t967 t968 t969 t970 t971 t972 t973 t974 t975 t976 t977))))) = some r := H
  have A5 := am A50
  clear A50
  replace H := bs H
  obtain ⟨⟨t996, t999, t1000, t1001, t1002, t1003, t1004, t1005, t1006, t1007⟩, A60, H⟩ := H
  replace H : (if (!(t986 == t1000) || (!(t987 == t1001) || (!(t988 == t1002) || (!(t989 == t1003) || (!(t990 == t1004) || (!(t991 == t1005) || (!(t992 == t1006) || (!(t993 == t1007))))))))) = true then (laws_FnCalled.j0 k true t964 t967 t968 t969 t970 t971 t972 t973 t974 t975 t976 t977) else ((laws_sameInts.f k t982 t996).bind fun t1010 => (if t1010 = true then (laws_FnCalled.j0 k (t985 != t999) t964 t967 t968 t969 t970 t971 t972 t973 t974 t975 t976 t977) else (laws_FnCalled.j0 k true t964 t967 t968 t969 t970 t971 t972 t973 t974 t975 t976 t977)))) = some r := H
  have A6 := am A60
  clear A60
  have HC7 := am H
  clear H
  go_enter Try.func7, Try.ntmps7
  go_upto_region 6 with (first | ((with_reducible refine gate_callee (f := 9) rfl ?_); refine goesM_ (some 20) rfl rfl Try.func9 #[.slice A0 l0.length c0] ?_; (with_reducible refine (laws_big.calls _ _ l0 false _ ?side1 ?side2 A2.out).mono ?_); (case side1 => exact kc HR0.out); (case side2 => exact HC0.out); rintro e w' ⟨rfl, ⟨nd, rfl⟩⟩; refine ⟨_, rfl, ?_⟩) | ((with_reducible refine gate_callee (f := 47) rfl ?_); refine goesM_ (some 23) rfl rfl Try.func47 #[.slice A0 l0.length c0] ?_; (with_reducible refine (spec_DrawExec.calls k _ _ l0 t964 t967 t968 t969 t970 t971 t972 t973 t974 t975 t976 t977 t978 _ ?side1 ?side2 A4.out).mono ?_); (case side1 => exact kc HR0.out); (case side2 => exact HC0.out); rintro e w8 ⟨v965, rfl, ho0, hb⟩; refine ⟨_, rfl, ?_⟩; have HO966 := am (Kd.Q_lower ho0 (below_size (bw HB.out))); replace HB := am (below_step (bw HB.out) hb); (try clear hb); (try clear hb2); (try clear hk); (try clear hi); (try clear ho0)) | ((with_reducible refine gd 3 ?_); refine bx (N := 3) (cs := #[.slice none 0 0, .int .i64 0]) (t := 32) ?_; intro gb979 hg w9 hbox hb; replace HO966 := am (Kd.Q_below (kq HO966.out) hb); have BK979 := am (hbox); have GW979 := am ((gs hg (bw HB.out))); have GE979 := am ((gs hg (bw HB.out))); replace HB := am (below_step (bw HB.out) hb); clear hb hbox hg) | ((with_reducible refine gd 4 ?_); refine bz (N := 4) ?_; intro gb980 hg w10 hbox hb; replace HO966 := am (Kd.Q_below (kq HO966.out) hb); have BK980 := am (hbox); have GW980 := am ((gs hg (bw HB.out))); have GE980 := am ((gs hg (bw HB.out))); replace HB := am (below_step (bw HB.out) hb); have NB979_980 := am ((ga hg BK979.out)); have NB980_979 := am ((gc hg BK979.out)); replace BK979 := am (bb BK979 hb); clear hb hbox hg) | ((with_reducible refine gd 5 ?_); refine bx (N := 5) (cs := #[.int .i64 0, .int .i64 0]) (t := 51) ?_; intro gb981 hg w11 hbox hb; replace HO966 := am (Kd.Q_below (kq HO966.out) hb); have BK981 := am (hbox); have GW981 := am ((gs hg (bw HB.out))); have GE981 := am ((gs hg (bw HB.out))); replace HB := am (below_step (bw HB.out) hb); have NB979_981 := am ((ga hg BK979.out)); have NB981_979 := am ((gc hg BK979.out)); replace BK979 := am (bb BK979 hb); have NB980_981 := am ((ga hg BK980.out)); have NB981_980 := am ((gc hg BK980.out)); replace BK980 := am (bb BK980 hb); clear hb hbox hg; obtain ⟨Ao12, co12, eo12, _⟩ := Kd.Q_slice HO966.out; subst eo12; have p_ := NB979_980.out; have p_ := NB979_981.out; obtain ⟨hcz15_0, hcz15_1⟩ := ce2 BK979; obtain ⟨hfz15_0, hfz15_1⟩ := fz2 BK979; have p_ := NB980_981.out; obtain ⟨hcz17_0, hcz17_1, hcz17_2, hcz17_3, hcz17_4, hcz17_5, hcz17_6, hcz17_7⟩ := ce8 BK980; obtain ⟨hfz17_0, hfz17_1, hfz17_2, hfz17_3, hfz17_4, hfz17_5, hfz17_6, hfz17_7⟩ := fz8 BK980; obtain ⟨hcz18_0, hcz18_1⟩ := ce2 BK981; obtain ⟨hfz18_0, hfz18_1⟩ := fz2 BK981) | ((with_reducible refine gate_callee (f := 48) rfl ?_); refine goesM_ (some 33) rfl rfl Try.func48 #[.agg #[.slice Ao12 t964.length co12, .int .i64 t967], .agg #[.int .i64 t968, .int .i64 t969, .int .i64 t970, .int .i64 t971, .bool t972, .bool t973, .bool t974, .bool t975], .agg #[.int .i64 t976, .int .i64 t977], .int .i64 t978] ?_; (with_reducible refine (impl_Exec.calls k _ _ t964 t967 t968 t969 t970 t971 t972 t973 t974 t975 t976 t977 t978 t982 t985 t986 t987 t988 t989 t990 t991 t992 t993 _ ?side1 ?side2 A5.out).mono ?_); (case side1 => refine (Kd.Q_reads' (e := 3) (base := w.heap.size) (ok := fun k_ => True) (n := t964.length) (c := co12) ?_).2.2; exact (kq ((Kd.Q_mono (Kd.Q_mono (Kd.Q_mono (Kd.Q_far (p := ⟨gb981, 1, none⟩) (Kd.Q_far (p := ⟨gb981, 0, none⟩) (Kd.Q_far (p := ⟨gb980, 7, none⟩) (Kd.Q_far (p := ⟨gb980, 6, none⟩) (Kd.Q_far (p := ⟨gb980, 5, none⟩) (Kd.Q_far (p := ⟨gb980, 4, none⟩) (Kd.Q_far (p := ⟨gb980, 3, none⟩) (Kd.Q_far (p := ⟨gb980, 2, none⟩) (Kd.Q_far (p := ⟨gb980, 1, none⟩) (Kd.Q_far (p := ⟨gb980, 0, none⟩) (Kd.Q_far (p := ⟨gb979, 1, none⟩) (Kd.Q_far (p := ⟨gb979, 0, none⟩) (Kd.Q_types (Kd.Q_types (Kd.Q_types HO966.out BK979.out (by decide)) BK980.out (by decide)) BK981.out (by decide)) (fun _ hk => hk.1.1.2) (.slice Ao12 t964.length co12)) (fun _ hk => hk.1.1.2) (.int .i64 t967)) (fun _ hk => hk.1.2) (.int .i64 t968)) (fun _ hk => hk.1.2) (.int .i64 t969)) (fun _ hk => hk.1.2) (.int .i64 t970)) (fun _ hk => hk.1.2) (.int .i64 t971)) (fun _ hk => hk.1.2) (.bool t972)) (fun _ hk => hk.1.2) (.bool t973)) (fun _ hk => hk.1.2) (.bool t974)) (fun _ hk => hk.1.2) (.bool t975)) (fun _ hk => hk.2) (.int .i64 t976)) (fun _ hk => hk.2) (.int .i64 t977)) (fun _ h_ => h_.1)) (fun _ h_ => h_.1)) (fun _ h_ => h_.1))))); (case side2 => exact (Kd.Q_reads' HO966.out).2.1); rintro e w19 ⟨v983, rfl, ho0, hb⟩; refine ⟨_, rfl, ?_⟩; have HO984 := am (Kd.R_lower (Kd.R_new' ho0 (Kd.Q_lt (kq ((Kd.Q_mono (Kd.Q_mono (Kd.Q_mono (Kd.Q_far (p := ⟨gb981, 1, none⟩) (Kd.Q_far (p := ⟨gb981, 0, none⟩) (Kd.Q_far (p := ⟨gb980, 7, none⟩) (Kd.Q_far (p := ⟨gb980, 6, none⟩) (Kd.Q_far (p := ⟨gb980, 5, none⟩) (Kd.Q_far (p := ⟨gb980, 4, none⟩) (Kd.Q_far (p := ⟨gb980, 3, none⟩) (Kd.Q_far (p := ⟨gb980, 2, none⟩) (Kd.Q_far (p := ⟨gb980, 1, none⟩) (Kd.Q_far (p := ⟨gb980, 0, none⟩) (Kd.Q_far (p := ⟨gb979, 1, none⟩) (Kd.Q_far (p := ⟨gb979, 0, none⟩) (Kd.Q_types (Kd.Q_types (Kd.Q_types HO966.out BK979.out (by decide)) BK980.out (by decide)) BK981.out (by decide)) (fun _ hk => hk.1.1.2) (.slice Ao12 t964.length co12)) (fun _ hk => hk.1.1.2) (.int .i64 t967)) (fun _ hk => hk.1.2) (.int .i64 t968)) (fun _ hk => hk.1.2) (.int .i64 t969)) (fun _ hk => hk.1.2) (.int .i64 t970)) (fun _ hk => hk.1.2) (.int .i64 t971)) (fun _ hk => hk.1.2) (.bool t972)) (fun _ hk => hk.1.2) (.bool t973)) (fun _ hk => hk.1.2) (.bool t974)) (fun _ hk => hk.1.2) (.bool t975)) (fun _ hk => hk.2) (.int .i64 t976)) (fun _ hk => hk.2) (.int .i64 t977)) (fun _ h_ => h_.1)) (fun _ h_ => h_.1)) (fun _ h_ => h_.1)))))) (below_size (bw HB.out))); replace HO966 := am (Kd.Q_elder' (kq ((Kd.Q_mono (Kd.Q_mono (Kd.Q_mono (Kd.Q_far (p := ⟨gb981, 1, none⟩) (Kd.Q_far (p := ⟨gb981, 0, none⟩) (Kd.Q_far (p := ⟨gb980, 7, none⟩) (Kd.Q_far (p := ⟨gb980, 6, none⟩) (Kd.Q_far (p := ⟨gb980, 5, none⟩) (Kd.Q_far (p := ⟨gb980, 4, none⟩) (Kd.Q_far (p := ⟨gb980, 3, none⟩) (Kd.Q_far (p := ⟨gb980, 2, none⟩) (Kd.Q_far (p := ⟨gb980, 1, none⟩) (Kd.Q_far (p := ⟨gb980, 0, none⟩) (Kd.Q_far (p := ⟨gb979, 1, none⟩) (Kd.Q_far (p := ⟨gb979, 0, none⟩) (Kd.Q_types (Kd.Q_types (Kd.Q_types HO966.out BK979.out (by decide)) BK980.out (by decide)) BK981.out (by decide)) (fun _ hk => hk.1.1.2) (.slice Ao12 t964.length co12)) (fun _ hk => hk.1.1.2) (.int .i64 t967)) (fun _ hk => hk.1.2) (.int .i64 t968)) (fun _ hk => hk.1.2) (.int .i64 t969)) (fun _ hk => hk.1.2) (.int .i64 t970)) (fun _ hk => hk.1.2) (.int .i64 t971)) (fun _ hk => hk.1.2) (.bool t972)) (fun _ hk => hk.1.2) (.bool t973)) (fun _ hk => hk.1.2) (.bool t974)) (fun _ hk => hk.1.2) (.bool t975)) (fun _ hk => hk.2) (.int .i64 t976)) (fun _ hk => hk.2) (.int .i64 t977)) (fun _ h_ => h_.1)) (fun _ h_ => h_.1)) (fun _ h_ => h_.1)))) (Kd.R_base ho0) hb); replace BK979 := am (blk_below (g := gb979) (o := .cells #[.slice Ao12 t964.length co12, .int .i64 t967] 32 (0, 0)) (bf2 NB979_981 NB979_980 BK979.out) hb); replace BK980 := am (blk_below (g := gb980) (o := .cells #[.int .i64 t968, .int .i64 t969, .int .i64 t970, .int .i64 t971, .bool t972, .bool t973, .bool t974, .bool t975] 55 (0, 0)) (bf2 NB980_981 NB980_979 BK980.out) hb); replace BK981 := am (blk_below (g := gb981) (o := .cells #[.int .i64 t976, .int .i64 t977] 51 (0, 0)) (bf2 NB981_980 NB981_979 BK981.out) hb); replace HB := am (below_step (bw HB.out) hb); (try clear hb); (try clear hb2); (try clear hk); (try clear hi); (try clear ho0)) | ((with_reducible refine gd 7 ?_); refine bx (N := 7) (cs := #[.slice none 0 0, .int .i64 0]) (t := 32) ?_; intro gb994 hg w20 hbox hb; replace HO966 := am (Kd.Q_below (kq HO966.out) hb); replace HO984 := am (Kd.R_below (kr HO984.out) hb); have BK994 := am (hbox); have GW994 := am ((gs hg (bw HB.out))); have GE994 := am ((gs hg (bw HB.out))); replace HB := am (below_step (bw HB.out) hb); have NB979_994 := am ((ga hg BK979.out)); have NB994_979 := am ((gc hg BK979.out)); replace BK979 := am (bb BK979 hb); have NB980_994 := am ((ga hg BK980.out)); have NB994_980 := am ((gc hg BK980.out)); replace BK980 := am (bb BK980 hb); have NB981_994 := am ((ga hg BK981.out)); have NB994_981 := am ((gc hg BK981.out)); replace BK981 := am (bb BK981 hb); clear hb hbox hg) | ((with_reducible refine gd 8 ?_); refine bz (N := 8) ?_; intro gb995 hg w21 hbox hb; replace HO966 := am (Kd.Q_below (kq HO966.out) hb); replace HO984 := am (Kd.R_below (kr HO984.out) hb); have BK995 := am (hbox); have GW995 := am ((gs hg (bw HB.out))); have GE995 := am ((gs hg (bw HB.out))); replace HB := am (below_step (bw HB.out) hb); have NB979_995 := am ((ga hg BK979.out)); have NB995_979 := am ((gc hg BK979.out)); replace BK979 := am (bb BK979 hb); have NB980_995 := am ((ga hg BK980.out)); have NB995_980 := am ((gc hg BK980.out)); replace BK980 := am (bb BK980 hb); have NB981_995 := am ((ga hg BK981.out)); have NB995_981 := am ((gc hg BK981.out)); replace BK981 := am (bb BK981 hb); have NB994_995 := am ((ga hg BK994.out)); have NB995_994 := am ((gc hg BK994.out)); replace BK994 := am (bb BK994 hb); clear hb hbox hg; obtain ⟨Ao22, co22, eo22⟩ := Kd.R_slice HO984.out; subst eo22; have p_ := NB994_979.out; have p_ := NB994_980.out; have p_ := NB994_981.out; have p_ := NB994_995.out; obtain ⟨hcz27_0, hcz27_1⟩ := ce2 BK994; obtain ⟨hfz27_0, hfz27_1⟩ := fz2 BK994; have p_ := NB995_979.out; have p_ := NB995_980.out; have p_ := NB995_981.out; obtain ⟨hcz31_0, hcz31_1, hcz31_2, hcz31_3, hcz31_4, hcz31_5, hcz31_6, hcz31_7⟩ := ce8 BK995; obtain ⟨hfz31_0, hfz31_1, hfz31_2, hfz31_3, hfz31_4, hfz31_5, hfz31_6, hfz31_7⟩ := fz8 BK995; obtain ⟨hcz32_0, hcz32_1⟩ := ce2 BK979; obtain ⟨hfz32_0, hfz32_1⟩ := fz2 BK979; obtain ⟨hcz33_0, hcz33_1, hcz33_2, hcz33_3, hcz33_4, hcz33_5, hcz33_6, hcz33_7⟩ := ce8 BK980; obtain ⟨hfz33_0, hfz33_1, hfz33_2, hfz33_3, hfz33_4, hfz33_5, hfz33_6, hfz33_7⟩ := fz8 BK980; obtain ⟨hcz34_0, hcz34_1⟩ := ce2 BK981; obtain ⟨hfz34_0, hfz34_1⟩ := fz2 BK981) | ((with_reducible refine gate_callee (f := 49) rfl ?_); refine goesM_ (some 41) rfl rfl Try.func49 #[.agg #[.slice Ao12 t964.length co12, .int .i64 t967], .agg #[.int .i64 t968, .int .i64 t969, .int .i64 t970, .int .i64 t971, .bool t972, .bool t973, .bool t974, .bool t975], .agg #[.int .i64 t976, .int .i64 t977], .int .i64 t978] ?_; (with_reducible refine (spec_Exec.calls k _ _ t964 t967 t968 t969 t970 t971 t972 t973 t974 t975 t976 t977 t978 t996 t999 t1000 t1001 t1002 t1003 t1004 t1005 t1006 t1007 _ ?side1 ?side2 A6.out).mono ?_); (case side1 => refine (Kd.Q_reads' (e := 3) (base := w.heap.size) (ok := fun k_ => (True ∧ some k_ ≠ (.slice Ao22 t982.length co22 : Value).ownBlock)) (n := t964.length) (c := co12) ?_).2.2; exact (kq ((Kd.Q_mono (Kd.Q_mono (Kd.Q_far (p := ⟨gb995, 7, none⟩) (Kd.Q_far (p := ⟨gb995, 6, none⟩) (Kd.Q_far (p := ⟨gb995, 5, none⟩) (Kd.Q_far (p := ⟨gb995, 4, none⟩) (Kd.Q_far (p := ⟨gb995, 3, none⟩) (Kd.Q_far (p := ⟨gb995, 2, none⟩) (Kd.Q_far (p := ⟨gb995, 1, none⟩) (Kd.Q_far (p := ⟨gb995, 0, none⟩) (Kd.Q_far (p := ⟨gb994, 1, none⟩) (Kd.Q_far (p := ⟨gb994, 0, none⟩) (Kd.Q_types (Kd.Q_types HO966.out BK994.out (by decide)) BK995.out (by decide)) (fun _ hk => hk.1.2) (.slice Ao22 t982.length co22)) (fun _ hk => hk.1.2) (.int .i64 t985)) (fun _ hk => hk.2) (.int .i64 t986)) (fun _ hk => hk.2) (.int .i64 t987)) (fun _ hk => hk.2) (.int .i64 t988)) (fun _ hk => hk.2) (.int .i64 t989)) (fun _ hk => hk.2) (.bool t990)) (fun _ hk => hk.2) (.bool t991)) (fun _ hk => hk.2) (.bool t992)) (fun _ hk => hk.2) (.bool t993)) (fun _ h_ => h_.1)) (fun _ h_ => h_.1))))); (case side2 => exact (Kd.Q_reads' HO966.out).2.1); rintro e w35 ⟨v997, rfl, ho0, hb⟩; refine ⟨_, rfl, ?_⟩; have HO998 := am (Kd.R_lower (Kd.R_new' (Kd.R_new' ho0 (Kd.Q_lt (kq ((Kd.Q_mono (Kd.Q_mono (Kd.Q_far (p := ⟨gb995, 7, none⟩) (Kd.Q_far (p := ⟨gb995, 6, none⟩) (Kd.Q_far (p := ⟨gb995, 5, none⟩) (Kd.Q_far (p := ⟨gb995, 4, none⟩) (Kd.Q_far (p := ⟨gb995, 3, none⟩) (Kd.Q_far (p := ⟨gb995, 2, none⟩) (Kd.Q_far (p := ⟨gb995, 1, none⟩) (Kd.Q_far (p := ⟨gb995, 0, none⟩) (Kd.Q_far (p := ⟨gb994, 1, none⟩) (Kd.Q_far (p := ⟨gb994, 0, none⟩) (Kd.Q_types (Kd.Q_types HO966.out BK994.out (by decide)) BK995.out (by decide)) (fun _ hk => hk.1.2) (.slice Ao22 t982.length co22)) (fun _ hk => hk.1.2) (.int .i64 t985)) (fun _ hk => hk.2) (.int .i64 t986)) (fun _ hk => hk.2) (.int .i64 t987)) (fun _ hk => hk.2) (.int .i64 t988)) (fun _ hk => hk.2) (.int .i64 t989)) (fun _ hk => hk.2) (.bool t990)) (fun _ hk => hk.2) (.bool t991)) (fun _ hk => hk.2) (.bool t992)) (fun _ hk => hk.2) (.bool t993)) (fun _ h_ => h_.1)) (fun _ h_ => h_.1)))))) (Kd.R_lt (kr ((Kd.R_mono (Kd.R_mono (Kd.R_far (p := ⟨gb995, 7, none⟩) (Kd.R_far (p := ⟨gb995, 6, none⟩) (Kd.R_far (p := ⟨gb995, 5, none⟩) (Kd.R_far (p := ⟨gb995, 4, none⟩) (Kd.R_far (p := ⟨gb995, 3, none⟩) (Kd.R_far (p := ⟨gb995, 2, none⟩) (Kd.R_far (p := ⟨gb995, 1, none⟩) (Kd.R_far (p := ⟨gb995, 0, none⟩) (Kd.R_far (p := ⟨gb994, 1, none⟩) (Kd.R_far (p := ⟨gb994, 0, none⟩) (Kd.R_types (Kd.R_types HO984.out BK994.out (by decide)) BK995.out (by decide)) (fun _ hk => hk.1.2) (.slice Ao22 t982.length co22)) (fun _ hk => hk.1.2) (.int .i64 t985)) (fun _ hk => hk.2) (.int .i64 t986)) (fun _ hk => hk.2) (.int .i64 t987)) (fun _ hk => hk.2) (.int .i64 t988)) (fun _ hk => hk.2) (.int .i64 t989)) (fun _ hk => hk.2) (.bool t990)) (fun _ hk => hk.2) (.bool t991)) (fun _ hk => hk.2) (.bool t992)) (fun _ hk => hk.2) (.bool t993)) (fun _ h_ => h_.1)) (fun _ h_ => h_.1)))))) (below_size (bw HB.out))); replace HO966 := am (Kd.Q_elder' (kq ((Kd.Q_mono (Kd.Q_mono (Kd.Q_far (p := ⟨gb995, 7, none⟩) (Kd.Q_far (p := ⟨gb995, 6, none⟩) (Kd.Q_far (p := ⟨gb995, 5, none⟩) (Kd.Q_far (p := ⟨gb995, 4, none⟩) (Kd.Q_far (p := ⟨gb995, 3, none⟩) (Kd.Q_far (p := ⟨gb995, 2, none⟩) (Kd.Q_far (p := ⟨gb995, 1, none⟩) (Kd.Q_far (p := ⟨gb995, 0, none⟩) (Kd.Q_far (p := ⟨gb994, 1, none⟩) (Kd.Q_far (p := ⟨gb994, 0, none⟩) (Kd.Q_types (Kd.Q_types HO966.out BK994.out (by decide)) BK995.out (by decide)) (fun _ hk => hk.1.2) (.slice Ao22 t982.length co22)) (fun _ hk => hk.1.2) (.int .i64 t985)) (fun _ hk => hk.2) (.int .i64 t986)) (fun _ hk => hk.2) (.int .i64 t987)) (fun _ hk => hk.2) (.int .i64 t988)) (fun _ hk => hk.2) (.int .i64 t989)) (fun _ hk => hk.2) (.bool t990)) (fun _ hk => hk.2) (.bool t991)) (fun _ hk => hk.2) (.bool t992)) (fun _ hk => hk.2) (.bool t993)) (fun _ h_ => h_.1)) (fun _ h_ => h_.1)))) (Kd.R_base ho0) hb); replace HO984 := am (Kd.R_elder' (kr ((Kd.R_mono (Kd.R_mono (Kd.R_far (p := ⟨gb995, 7, none⟩) (Kd.R_far (p := ⟨gb995, 6, none⟩) (Kd.R_far (p := ⟨gb995, 5, none⟩) (Kd.R_far (p := ⟨gb995, 4, none⟩) (Kd.R_far (p := ⟨gb995, 3, none⟩) (Kd.R_far (p := ⟨gb995, 2, none⟩) (Kd.R_far (p := ⟨gb995, 1, none⟩) (Kd.R_far (p := ⟨gb995, 0, none⟩) (Kd.R_far (p := ⟨gb994, 1, none⟩) (Kd.R_far (p := ⟨gb994, 0, none⟩) (Kd.R_types (Kd.R_types HO984.out BK994.out (by decide)) BK995.out (by decide)) (fun _ hk => hk.1.2) (.slice Ao22 t982.length co22)) (fun _ hk => hk.1.2) (.int .i64 t985)) (fun _ hk => hk.2) (.int .i64 t986)) (fun _ hk => hk.2) (.int .i64 t987)) (fun _ hk => hk.2) (.int .i64 t988)) (fun _ hk => hk.2) (.int .i64 t989)) (fun _ hk => hk.2) (.bool t990)) (fun _ hk => hk.2) (.bool t991)) (fun _ hk => hk.2) (.bool t992)) (fun _ hk => hk.2) (.bool t993)) (fun _ h_ => h_.1)) (fun _ h_ => h_.1)))) (Kd.R_base ho0) hb); replace BK979 := am (blk_below (g := gb979) (o := .cells #[.slice Ao12 t964.length co12, .int .i64 t967] 32 (0, 0)) (kf BK979.out) hb); replace BK980 := am (blk_below (g := gb980) (o := .cells #[.int .i64 t968, .int .i64 t969, .int .i64 t970, .int .i64 t971, .bool t972, .bool t973, .bool t974, .bool t975] 55 (0, 0)) (kf BK980.out) hb); replace BK981 := am (blk_below (g := gb981) (o := .cells #[.int .i64 t976, .int .i64 t977] 51 (0, 0)) (kf BK981.out) hb); replace BK994 := am (blk_below (g := gb994) (o := .cells #[.slice Ao22 t982.length co22, .int .i64 t985] 32 (0, 0)) (bf NB994_995 BK994.out) hb); replace BK995 := am (blk_below (g := gb995) (o := .cells #[.int .i64 t986, .int .i64 t987, .int .i64 t988, .int .i64 t989, .bool t990, .bool t991, .bool t992, .bool t993] 55 (0, 0)) (bf NB995_994 BK995.out) hb); replace HB := am (below_step (bw HB.out) hb); (try clear hb); (try clear hb2); (try clear hk); (try clear hi); (try clear ho0)) | ((with_reducible refine gd 9 ?_); refine bx (N := 9) (cs := #[.slice none 0 0, .int .i64 0]) (t := 32) ?_; intro gb1008 hg w36 hbox hb; replace HO966 := am (Kd.Q_below (kq HO966.out) hb); replace HO984 := am (Kd.R_below (kr HO984.out) hb); replace HO998 := am (Kd.R_below (kr HO998.out) hb); have BK1008 := am (hbox); have GW1008 := am ((gs hg (bw HB.out))); have GE1008 := am ((gs hg (bw HB.out))); replace HB := am (below_step (bw HB.out) hb); have NB979_1008 := am ((ga hg BK979.out)); have NB1008_979 := am ((gc hg BK979.out)); replace BK979 := am (bb BK979 hb); have NB980_1008 := am ((ga hg BK980.out)); have NB1008_980 := am ((gc hg BK980.out)); replace BK980 := am (bb BK980 hb); have NB981_1008 := am ((ga hg BK981.out)); have NB1008_981 := am ((gc hg BK981.out)); replace BK981 := am (bb BK981 hb); have NB994_1008 := am ((ga hg BK994.out)); have NB1008_994 := am ((gc hg BK994.out)); replace BK994 := am (bb BK994 hb); have NB995_1008 := am ((ga hg BK995.out)); have NB1008_995 := am ((gc hg BK995.out)); replace BK995 := am (bb BK995 hb); clear hb hbox hg) | ((with_reducible refine gd 10 ?_); refine bz (N := 10) ?_; intro gb1009 hg w37 hbox hb; replace HO966 := am (Kd.Q_below (kq HO966.out) hb); replace HO984 := am (Kd.R_below (kr HO984.out) hb); replace HO998 := am (Kd.R_below (kr HO998.out) hb); have BK1009 := am (hbox); have GW1009 := am ((gs hg (bw HB.out))); have GE1009 := am ((gs hg (bw HB.out))); replace HB := am (below_step (bw HB.out) hb); have NB979_1009 := am ((ga hg BK979.out)); have NB1009_979 := am ((gc hg BK979.out)); replace BK979 := am (bb BK979 hb); have NB980_1009 := am ((ga hg BK980.out)); have NB1009_980 := am ((gc hg BK980.out)); replace BK980 := am (bb BK980 hb); have NB981_1009 := am ((ga hg BK981.out)); have NB1009_981 := am ((gc hg BK981.out)); replace BK981 := am (bb BK981 hb); have NB994_1009 := am ((ga hg BK994.out)); have NB1009_994 := am ((gc hg BK994.out)); replace BK994 := am (bb BK994 hb); have NB995_1009 := am ((ga hg BK995.out)); have NB1009_995 := am ((gc hg BK995.out)); replace BK995 := am (bb BK995 hb); have NB1008_1009 := am ((ga hg BK1008.out)); have NB1009_1008 := am ((gc hg BK1008.out)); replace BK1008 := am (bb BK1008 hb); clear hb hbox hg; obtain ⟨Ao38, co38, eo38⟩ := Kd.R_slice HO998.out; subst eo38; have p_ := NB1008_979.out; have p_ := NB1008_980.out; have p_ := NB1008_981.out; have p_ := NB1008_994.out; have p_ := NB1008_995.out; have p_ := NB1008_1009.out; obtain ⟨hcz45_0, hcz45_1⟩ := ce2 BK1008; obtain ⟨hfz45_0, hfz45_1⟩ := fz2 BK1008; have p_ := NB1009_979.out; have p_ := NB1009_980.out; have p_ := NB1009_981.out; have p_ := NB1009_994.out; have p_ := NB1009_995.out; obtain ⟨hcz51_0, hcz51_1, hcz51_2, hcz51_3, hcz51_4, hcz51_5, hcz51_6, hcz51_7⟩ := ce8 BK1009; obtain ⟨hfz51_0, hfz51_1, hfz51_2, hfz51_3, hfz51_4, hfz51_5, hfz51_6, hfz51_7⟩ := fz8 BK1009))
  (try simp only [Act.put, List.setIfInBounds_toArray, List.set_cons_zero, List.set_cons_succ])
  go_cut [61] (fun v61 wc => ∃ (kq : Nat) (x61_6 : Bool), v61 = .bool x61_6 ∧ Aside0 (laws_FnCalled.j0 kq x61_6 t964 t967 t968 t969 t970 t971 t972 t973 t974 t975 t976 t977 = some r) ∧ Aside0 (kq ≤ k) ∧ Aside0 (Kd.Q (Kd.int .i64) 3 wc w.heap.size (fun k_ => some k_ ≠ ((.slice Ao22 t982.length co22) : Value).ownBlock ∧ some k_ ≠ ((.slice Ao38 t996.length co38) : Value).ownBlock) (.slice Ao12 t964.length co12) t964) ∧ Aside0 (Kd.Q (Kd.int .i64) 3 wc w.heap.size (fun k_ => some k_ ≠ ((.slice Ao12 t964.length co12) : Value).ownBlock ∧ some k_ ≠ ((.slice Ao38 t996.length co38) : Value).ownBlock) (.slice Ao22 t982.length co22) t982) ∧ Aside0 (Kd.Q (Kd.int .i64) 3 wc w.heap.size (fun k_ => some k_ ≠ ((.slice Ao12 t964.length co12) : Value).ownBlock ∧ some k_ ≠ ((.slice Ao22 t982.length co22) : Value).ownBlock) (.slice Ao38 t996.length co38) t996) ∧ Aside0 (wc.heap[gb979]? = some (.cells #[(.slice Ao12 t964.length co12), .int .i64 t967] 32 (0, 0))) ∧ Aside0 (wc.heap[gb980]? = some (.cells #[.int .i64 t968, .int .i64 t969, .int .i64 t970, .int .i64 t971, .bool t972, .bool t973, .bool t974, .bool t975] 55 (0, 0))) ∧ Aside0 (wc.heap[gb981]? = some (.cells #[.int .i64 t976, .int .i64 t977] 51 (0, 0))) ∧ Aside0 (wc.heap[gb994]? = some (.cells #[(.slice Ao22 t982.length co22), .int .i64 t985] 32 (0, 0))) ∧ Aside0 (wc.heap[gb995]? = some (.cells #[.int .i64 t986, .int .i64 t987, .int .i64 t988, .int .i64 t989, .bool t990, .bool t991, .bool t992, .bool t993] 55 (0, 0))) ∧ Aside0 (wc.heap[gb1008]? = some (.cells #[(.slice Ao38 t996.length co38), .int .i64 t999] 32 (0, 0))) ∧ Aside0 (wc.heap[gb1009]? = some (.cells #[.int .i64 t1000, .int .i64 t1001, .int .i64 t1002, .int .i64 t1003, .bool t1004, .bool t1005, .bool t1006, .bool t1007] 55 (0, 0))) ∧ Aside0 (Below w.heap.size w wc))
  case first =>
   have H := HC7.out
   clear HC7
   by_cases c52 : (!(t986 == t1000) || (!(t987 == t1001) || (!(t988 == t1002) || (!(t989 == t1003) || (!(t990 == t1004) || (!(t991 == t1005) || (!(t992 == t1006) || (!(t993 == t1007))))))))) = true
   ·rw [if_pos c52] at H
    have c52b0 : (!(t986 == t1000) || (!(t987 == t1001) || (!(t988 == t1002) || (!(t989 == t1003) || (!(t990 == t1004) || (!(t991 == t1005) || (!(t992 == t1006) || (!(t993 == t1007))))))))) = true := c52
    clear c52
    (first | rw [c52b0] | (simp only [i64_w, i32_w]; rw [c52b0]) | skip)
    exact absurd (show r = false by first | (cases k with | zero => (simp [laws_FnCalled.j0] at H; done) | succ k_ => (simp [laws_FnCalled.j0] at H; (first | exact H | exact H.symm))) | (cases kj112 with | zero => (simp [laws_FnCalled.j0] at H; done) | succ k_ => (simp [laws_FnCalled.j0] at H; (first | exact H | exact H.symm))) | (cases kj6 with | zero => (simp [laws_FnCalled.j0] at H; done) | succ k_ => (simp [laws_FnCalled.j0] at H; (first | exact H | exact H.symm)))) (by rw [hrt]; decide)
   ·rw [if_neg c52] at H
    have c52b0 : (!(t986 == t1000) || (!(t987 == t1001) || (!(t988 == t1002) || (!(t989 == t1003) || (!(t990 == t1004) || (!(t991 == t1005) || (!(t992 == t1006) || (!(t993 == t1007))))))))) = false := by simpa using c52
    have q_ : t986 = t1000 ∧ t987 = t1001 ∧ t988 = t1002 ∧ t989 = t1003 ∧ t990 = t1004 ∧ t991 = t1005 ∧ t992 = t1006 ∧ t993 = t1007 := by simpa using c52b0
    clear c52b0
    obtain ⟨rfl, rfl, rfl, rfl, rfl, rfl, rfl, rfl⟩ := q_
    clear c52
    skip
    replace H := bs H
    obtain ⟨t1010, A660, H⟩ := H
    replace H : (if t1010 = true then (laws_FnCalled.j0 k (t985 != t999) t964 t967 t968 t969 t970 t971 t972 t973 t974 t975 t976 t977) else (laws_FnCalled.j0 k true t964 t967 t968 t969 t970 t971 t972 t973 t974 t975 t976 t977)) = some r := H
    have A66 := am A660
    clear A660
    by_cases c67 : t1010 = true
    ·subst c67
     have H1 : (laws_FnCalled.j0 k (t985 != t999) t964 t967 t968 t969 t970 t971 t972 t973 t974 t975 t976 t977) = some r := by rw [if_pos rfl] at H; exact H
     clear H
     have H := H1
     clear H1
     have H' := am H
     clear H
     have p_ := NB995_979.out
     have p_ := NB995_980.out
     have p_ := NB995_981.out
     have p_ := NB995_994.out
     have p_ := NB995_1008.out
     have p_ := NB995_1009.out
     obtain ⟨hcz74_0, hcz74_1, hcz74_2, hcz74_3, hcz74_4, hcz74_5, hcz74_6, hcz74_7⟩ := ce8 BK995
     obtain ⟨hfz74_0, hfz74_1, hfz74_2, hfz74_3, hfz74_4, hfz74_5, hfz74_6, hfz74_7⟩ := fz8 BK995
     have p_ := NB1009_979.out
     have p_ := NB1009_980.out
     have p_ := NB1009_981.out
     have p_ := NB1009_994.out
     have p_ := NB1009_1008.out
     obtain ⟨hcz80_0, hcz80_1, hcz80_2, hcz80_3, hcz80_4, hcz80_5, hcz80_6, hcz80_7⟩ := ce8 BK1009
     obtain ⟨hfz80_0, hfz80_1, hfz80_2, hfz80_3, hfz80_4, hfz80_5, hfz80_6, hfz80_7⟩ := fz8 BK1009
     have p_ := NB994_979.out
     have p_ := NB994_980.out
     have p_ := NB994_981.out
     have p_ := NB994_1008.out
     obtain ⟨hcz85_0, hcz85_1⟩ := ce2 BK994
     obtain ⟨hfz85_0, hfz85_1⟩ := fz2 BK994
     have p_ := NB1008_979.out
     have p_ := NB1008_980.out
     have p_ := NB1008_981.out
     obtain ⟨hcz89_0, hcz89_1⟩ := ce2 BK1008
     obtain ⟨hfz89_0, hfz89_1⟩ := fz2 BK1008
     go_wp2_with (first | (go_at_call 26; (with_reducible refine (laws_sameInts.calls k _ _ t982 _ _ t996 true _ ?side1 ?side2 ?side3 ?side4 A66.out).mono ?_); (case side1 => refine (Kd.R_reads' (e := 3) (base := w.heap.size) (ok := fun k_ => ((True ∧ some k_ ≠ (.slice Ao12 t964.length co12 : Value).ownBlock) ∧ some k_ ≠ (.slice Ao38 t996.length co38 : Value).ownBlock)) (n := t982.length) (c := co22) ?_).2.2; exact (kr ((Kd.R_mono (Kd.R_mono (Kd.R_far (p := ⟨gb1009, 7, none⟩) (Kd.R_far (p := ⟨gb1009, 6, none⟩) (Kd.R_far (p := ⟨gb1009, 5, none⟩) (Kd.R_far (p := ⟨gb1009, 4, none⟩) (Kd.R_far (p := ⟨gb1009, 3, none⟩) (Kd.R_far (p := ⟨gb1009, 2, none⟩) (Kd.R_far (p := ⟨gb1009, 1, none⟩) (Kd.R_far (p := ⟨gb1009, 0, none⟩) (Kd.R_far (p := ⟨gb1008, 1, none⟩) (Kd.R_far (p := ⟨gb1008, 0, none⟩) (Kd.R_types (Kd.R_types HO984.out BK1008.out (by decide)) BK1009.out (by decide)) (fun _ hk => hk.1.2) (.slice Ao38 t996.length co38)) (fun _ hk => hk.1.2) (.int .i64 t999)) (fun _ hk => hk.2) (.int .i64 t986)) (fun _ hk => hk.2) (.int .i64 t987)) (fun _ hk => hk.2) (.int .i64 t988)) (fun _ hk => hk.2) (.int .i64 t989)) (fun _ hk => hk.2) (.bool t990)) (fun _ hk => hk.2) (.bool t991)) (fun _ hk => hk.2) (.bool t992)) (fun _ hk => hk.2) (.bool t993)) (fun _ h_ => h_.1)) (fun _ h_ => h_.1))))); (case side2 => exact (Kd.R_reads' HO984.out).2.1); (case side3 => refine (Kd.R_reads' (e := 3) (base := w.heap.size) (ok := fun k_ => ((True ∧ some k_ ≠ (.slice Ao12 t964.length co12 : Value).ownBlock) ∧ some k_ ≠ (.slice Ao22 t982.length co22 : Value).ownBlock)) (n := t996.length) (c := co38) ?_).2.2; exact (kr ((Kd.R_mono (Kd.R_mono (Kd.R_far (p := ⟨gb1009, 7, none⟩) (Kd.R_far (p := ⟨gb1009, 6, none⟩) (Kd.R_far (p := ⟨gb1009, 5, none⟩) (Kd.R_far (p := ⟨gb1009, 4, none⟩) (Kd.R_far (p := ⟨gb1009, 3, none⟩) (Kd.R_far (p := ⟨gb1009, 2, none⟩) (Kd.R_far (p := ⟨gb1009, 1, none⟩) (Kd.R_far (p := ⟨gb1009, 0, none⟩) (Kd.R_far (p := ⟨gb1008, 1, none⟩) (Kd.R_far (p := ⟨gb1008, 0, none⟩) (Kd.R_types (Kd.R_types HO998.out BK1008.out (by decide)) BK1009.out (by decide)) (fun _ hk => hk.1.2) (.slice Ao38 t996.length co38)) (fun _ hk => hk.1.2) (.int .i64 t999)) (fun _ hk => hk.2) (.int .i64 t986)) (fun _ hk => hk.2) (.int .i64 t987)) (fun _ hk => hk.2) (.int .i64 t988)) (fun _ hk => hk.2) (.int .i64 t989)) (fun _ hk => hk.2) (.bool t990)) (fun _ hk => hk.2) (.bool t991)) (fun _ hk => hk.2) (.bool t992)) (fun _ hk => hk.2) (.bool t993)) (fun _ h_ => h_.1)) (fun _ h_ => h_.1))))); (case side4 => exact (Kd.R_reads' HO998.out).2.1); rintro e w' ⟨rfl, ⟨nd, rfl⟩⟩))
     go_meet
     case rel => exact ⟨_, ((t985 != t999)), (by first | rfl | (simp; done) | (simp [*]; done)), H', ⟨by first | omega | exact Nat.le_refl _⟩, ⟨kq (Kd.Q_mono (Kd.Q_far (p := ⟨gb1009, 7, none⟩) (Kd.Q_far (p := ⟨gb1009, 6, none⟩) (Kd.Q_far (p := ⟨gb1009, 5, none⟩) (Kd.Q_far (p := ⟨gb1009, 4, none⟩) (Kd.Q_far (p := ⟨gb1009, 3, none⟩) (Kd.Q_far (p := ⟨gb1009, 2, none⟩) (Kd.Q_far (p := ⟨gb1009, 1, none⟩) (Kd.Q_far (p := ⟨gb1009, 0, none⟩) (Kd.Q_far (p := ⟨gb1008, 1, none⟩) (Kd.Q_far (p := ⟨gb1008, 0, none⟩) (Kd.Q_types (Kd.Q_types HO966.out BK1008.out (by decide)) BK1009.out (by decide)) (fun _ hk => hk.1.2) (.slice Ao38 t996.length co38)) (fun _ hk => hk.1.2) (.int .i64 t999)) (fun _ hk => hk.2) (.int .i64 t986)) (fun _ hk => hk.2) (.int .i64 t987)) (fun _ hk => hk.2) (.int .i64 t988)) (fun _ hk => hk.2) (.int .i64 t989)) (fun _ hk => hk.2) (.bool t990)) (fun _ hk => hk.2) (.bool t991)) (fun _ hk => hk.2) (.bool t992)) (fun _ hk => hk.2) (.bool t993)) (fun _ hk => ⟨hk.1.1.1.2, hk.1.1.2⟩))⟩, ⟨Kd.Q_of_R (kr (Kd.R_mono (Kd.R_far (p := ⟨gb1009, 7, none⟩) (Kd.R_far (p := ⟨gb1009, 6, none⟩) (Kd.R_far (p := ⟨gb1009, 5, none⟩) (Kd.R_far (p := ⟨gb1009, 4, none⟩) (Kd.R_far (p := ⟨gb1009, 3, none⟩) (Kd.R_far (p := ⟨gb1009, 2, none⟩) (Kd.R_far (p := ⟨gb1009, 1, none⟩) (Kd.R_far (p := ⟨gb1009, 0, none⟩) (Kd.R_far (p := ⟨gb1008, 1, none⟩) (Kd.R_far (p := ⟨gb1008, 0, none⟩) (Kd.R_types (Kd.R_types HO984.out BK1008.out (by decide)) BK1009.out (by decide)) (fun _ hk => hk.1.2) (.slice Ao38 t996.length co38)) (fun _ hk => hk.1.2) (.int .i64 t999)) (fun _ hk => hk.2) (.int .i64 t986)) (fun _ hk => hk.2) (.int .i64 t987)) (fun _ hk => hk.2) (.int .i64 t988)) (fun _ hk => hk.2) (.int .i64 t989)) (fun _ hk => hk.2) (.bool t990)) (fun _ hk => hk.2) (.bool t991)) (fun _ hk => hk.2) (.bool t992)) (fun _ hk => hk.2) (.bool t993)) (fun _ hk => ⟨hk.1.1.1.2, hk.1.1.2⟩)))⟩, ⟨Kd.Q_of_R (kr (Kd.R_mono (Kd.R_far (p := ⟨gb1009, 7, none⟩) (Kd.R_far (p := ⟨gb1009, 6, none⟩) (Kd.R_far (p := ⟨gb1009, 5, none⟩) (Kd.R_far (p := ⟨gb1009, 4, none⟩) (Kd.R_far (p := ⟨gb1009, 3, none⟩) (Kd.R_far (p := ⟨gb1009, 2, none⟩) (Kd.R_far (p := ⟨gb1009, 1, none⟩) (Kd.R_far (p := ⟨gb1009, 0, none⟩) (Kd.R_far (p := ⟨gb1008, 1, none⟩) (Kd.R_far (p := ⟨gb1008, 0, none⟩) (Kd.R_types (Kd.R_types HO998.out BK1008.out (by decide)) BK1009.out (by decide)) (fun _ hk => hk.1.2) (.slice Ao38 t996.length co38)) (fun _ hk => hk.1.2) (.int .i64 t999)) (fun _ hk => hk.2) (.int .i64 t986)) (fun _ hk => hk.2) (.int .i64 t987)) (fun _ hk => hk.2) (.int .i64 t988)) (fun _ hk => hk.2) (.int .i64 t989)) (fun _ hk => hk.2) (.bool t990)) (fun _ hk => hk.2) (.bool t991)) (fun _ hk => hk.2) (.bool t992)) (fun _ hk => hk.2) (.bool t993)) (fun _ hk => ⟨hk.1.1.1.2, hk.1.1.2⟩)))⟩, ⟨kf BK979.out⟩, ⟨kf BK980.out⟩, ⟨kf BK981.out⟩, ⟨kf BK994.out⟩, ⟨kf BK995.out⟩, ⟨bf NB1008_1009 BK1008.out⟩, ⟨bf NB1009_1008 BK1009.out⟩, ⟨bw HB.out⟩⟩
    ·replace c67 := Bool.eq_false_iff.mpr c67
     subst c67
     have H1 : (laws_FnCalled.j0 k true t964 t967 t968 t969 t970 t971 t972 t973 t974 t975 t976 t977) = some r := by rw [if_neg (show ¬ (false = true) by decide)] at H; exact H
     clear H
     have H := H1
     clear H1
     exact absurd (show r = false by first | (cases k with | zero => (simp [laws_FnCalled.j0] at H; done) | succ k_ => (simp [laws_FnCalled.j0] at H; (first | exact H | exact H.symm))) | (cases kj112 with | zero => (simp [laws_FnCalled.j0] at H; done) | succ k_ => (simp [laws_FnCalled.j0] at H; (first | exact H | exact H.symm))) | (cases kj6 with | zero => (simp [laws_FnCalled.j0] at H; done) | succ k_ => (simp [laws_FnCalled.j0] at H; (first | exact H | exact H.symm)))) (by rw [hrt]; decide)
  case rest =>
   clear HC7; (try clear c1); (try clear c2); (try clear p2); (try clear c3); (try clear c4); (try clear c5); (try clear c6); (try clear c7); (try clear c8); (try clear c9); (try clear c10); (try clear c11); (try clear c13); (try clear c14); (try clear c16); (try clear c23); (try clear c24); (try clear c25); (try clear c26); (try clear c28); (try clear c29); (try clear c30); (try clear c39); (try clear c40); (try clear c41); (try clear c42); (try clear c43); (try clear c44); (try clear c46); (try clear c47); (try clear c48); (try clear c49); (try clear c50); (try clear c52); (try clear c52b0); (try clear c53); (try clear c54); (try clear c55); (try clear c56); (try clear c57); (try clear c58); (try clear c60); (try clear c61); (try clear c62); (try clear c63); (try clear c64); (try clear c67); (try clear c68); (try clear c69); (try clear c70); (try clear c71); (try clear c72); (try clear c73); (try clear c75); (try clear c76); (try clear c77); (try clear c78); (try clear c79); (try clear c81); (try clear c82); (try clear c83); (try clear c84); (try clear c86); (try clear c87); (try clear c88); (try clear c90); (try clear c91); (try clear c92); (try clear c93); (try clear c94); (try clear c95); (try clear c97); (try clear c98); (try clear c99); (try clear c100); (try clear c101); (try clear c103); (try clear c104); (try clear c105); (try clear c106); (try clear c108); (try clear c109); (try clear c110); (try clear hcz102_0); (try clear hcz102_1); (try clear hcz102_2); (try clear hcz102_3); (try clear hcz102_4); (try clear hcz102_5); (try clear hcz102_6); (try clear hcz102_7); (try clear hcz107_0); (try clear hcz107_1); (try clear hcz111_0); (try clear hcz111_1); (try clear hcz15_0); (try clear hcz15_1); (try clear hcz17_0); (try clear hcz17_1); (try clear hcz17_2); (try clear hcz17_3); (try clear hcz17_4); (try clear hcz17_5); (try clear hcz17_6); (try clear hcz17_7); (try clear hcz18_0); (try clear hcz18_1); (try clear hcz27_0); (try clear hcz27_1); (try clear hcz31_0); (try clear hcz31_1); (try clear hcz31_2); (try clear hcz31_3); (try clear hcz31_4); (try clear hcz31_5); (try clear hcz31_6); (try clear hcz31_7); (try clear hcz32_0); (try clear hcz32_1); (try clear hcz33_0); (try clear hcz33_1); (try clear hcz33_2); (try clear hcz33_3); (try clear hcz33_4); (try clear hcz33_5); (try clear hcz33_6); (try clear hcz33_7); (try clear hcz34_0); (try clear hcz34_1); (try clear hcz45_0); (try clear hcz45_1); (try clear hcz51_0); (try clear hcz51_1); (try clear hcz51_2); (try clear hcz51_3); (try clear hcz51_4); (try clear hcz51_5); (try clear hcz51_6); (try clear hcz51_7); (try clear hcz59_0); (try clear hcz59_1); (try clear hcz59_2); (try clear hcz59_3); (try clear hcz59_4); (try clear hcz59_5); (try clear hcz59_6); (try clear hcz59_7); (try clear hcz65_0); (try clear hcz65_1); (try clear hcz65_2); (try clear hcz65_3); (try clear hcz65_4); (try clear hcz65_5); (try clear hcz65_6); (try clear hcz65_7); (try clear hcz74_0); (try clear hcz74_1); (try clear hcz74_2); (try clear hcz74_3); (try clear hcz74_4); (try clear hcz74_5); (try clear hcz74_6); (try clear hcz74_7); (try clear hcz80_0); (try clear hcz80_1); (try clear hcz80_2); (try clear hcz80_3); (try clear hcz80_4); (try clear hcz80_5); (try clear hcz80_6); (try clear hcz80_7); (try clear hcz85_0); (try clear hcz85_1); (try clear hcz89_0); (try clear hcz89_1); (try clear hcz96_0); (try clear hcz96_1); (try clear hcz96_2); (try clear hcz96_3); (try clear hcz96_4); (try clear hcz96_5); (try clear hcz96_6); (try clear hcz96_7); (try clear hfz102_0); (try clear hfz102_1); (try clear hfz102_2); (try clear hfz102_3); (try clear hfz102_4); (try clear hfz102_5); (try clear hfz102_6); (try clear hfz102_7); (try clear hfz107_0); (try clear hfz107_1); (try clear hfz111_0); (try clear hfz111_1); (try clear hfz15_0); (try clear hfz15_1); (try clear hfz17_0); (try clear hfz17_1); (try clear hfz17_2); (try clear hfz17_3); (try clear hfz17_4); (try clear hfz17_5); (try clear hfz17_6); (try clear hfz17_7); (try clear hfz18_0); (try clear hfz18_1); (try clear hfz27_0); (try clear hfz27_1); (try clear hfz31_0); (try clear hfz31_1); (try clear hfz31_2); (try clear hfz31_3); (try clear hfz31_4); (try clear hfz31_5); (try clear hfz31_6); (try clear hfz31_7); (try clear hfz32_0); (try clear hfz32_1); (try clear hfz33_0); (try clear hfz33_1); (try clear hfz33_2); (try clear hfz33_3); (try clear hfz33_4); (try clear hfz33_5); (try clear hfz33_6); (try clear hfz33_7); (try clear hfz34_0); (try clear hfz34_1); (try clear hfz45_0); (try clear hfz45_1); (try clear hfz51_0); (try clear hfz51_1); (try clear hfz51_2); (try clear hfz51_3); (try clear hfz51_4); (try clear hfz51_5); (try clear hfz51_6); (try clear hfz51_7); (try clear hfz59_0); (try clear hfz59_1); (try clear hfz59_2); (try clear hfz59_3); (try clear hfz59_4); (try clear hfz59_5); (try clear hfz59_6); (try clear hfz59_7); (try clear hfz65_0); (try clear hfz65_1); (try clear hfz65_2); (try clear hfz65_3); (try clear hfz65_4); (try clear hfz65_5); (try clear hfz65_6); (try clear hfz65_7); (try clear hfz74_0); (try clear hfz74_1); (try clear hfz74_2); (try clear hfz74_3); (try clear hfz74_4); (try clear hfz74_5); (try clear hfz74_6); (try clear hfz74_7); (try clear hfz80_0); (try clear hfz80_1); (try clear hfz80_2); (try clear hfz80_3); (try clear hfz80_4); (try clear hfz80_5); (try clear hfz80_6); (try clear hfz80_7); (try clear hfz85_0); (try clear hfz85_1); (try clear hfz89_0); (try clear hfz89_1); (try clear hfz96_0); (try clear hfz96_1); (try clear hfz96_2); (try clear hfz96_3); (try clear hfz96_4); (try clear hfz96_5); (try clear hfz96_6); (try clear hfz96_7)
   obtain ⟨kq, x61_6, rfl, HA, HJ6, HP980, HP995, HP1009, BK979, BK980, BK981, BK994, BK995, BK1008, BK1009, HB⟩ := hcut
   cases kq with
   | zero => exact absurd HA.out (by simp [laws_FnCalled.j0])
   | succ kj6 =>
    have H := HA.out
    clear HA
    simp only [laws_FnCalled.j0] at H
    by_cases c112 : x61_6 = true
    ·subst c112
     have H1 : (some false) = some r := by rw [if_pos rfl] at H; exact H
     clear H
     have H := H1
     clear H1
     exact absurd ((oj H).trans hrt) (by decide)
    ·replace c112 := Bool.eq_false_iff.mpr c112
     subst c112
     have H1 : (if (t964.length : Int) = 512 then ((spec_CpuOk.f t968 t969 t970 t971 t972 t973 t974 t975).bind fun t1011 => (laws_FnCalled.j1 kj6 (!t1011) t964 t967 t968 t969 t970 t971 t972 t973 t974 t975 t976 t977)) else (laws_FnCalled.j1 kj6 true t964 t967 t968 t969 t970 t971 t972 t973 t974 t975 t976 t977)) = some r := by rw [if_neg (show ¬ (false = true) by decide)] at H; exact H
     clear H
     have H := H1
     clear H1
     have HC113 := am H
     clear H
     go_upto_region 8 with (fail)
     go_cut [70] (fun v70 wc => ∃ (kq : Nat) (x70_112 : Bool), v70 = .bool x70_112 ∧ Aside0 (laws_FnCalled.j1 kq x70_112 t964 t967 t968 t969 t970 t971 t972 t973 t974 t975 t976 t977 = some r) ∧ Aside0 (kq ≤ kj6) ∧ Aside0 (Kd.Q (Kd.int .i64) 3 wc w.heap.size (fun k_ => some k_ ≠ ((.slice Ao22 t982.length co22) : Value).ownBlock ∧ some k_ ≠ ((.slice Ao38 t996.length co38) : Value).ownBlock) (.slice Ao12 t964.length co12) t964) ∧ Aside0 (Kd.Q (Kd.int .i64) 3 wc w.heap.size (fun k_ => some k_ ≠ ((.slice Ao12 t964.length co12) : Value).ownBlock ∧ some k_ ≠ ((.slice Ao38 t996.length co38) : Value).ownBlock) (.slice Ao22 t982.length co22) t982) ∧ Aside0 (Kd.Q (Kd.int .i64) 3 wc w.heap.size (fun k_ => some k_ ≠ ((.slice Ao12 t964.length co12) : Value).ownBlock ∧ some k_ ≠ ((.slice Ao22 t982.length co22) : Value).ownBlock) (.slice Ao38 t996.length co38) t996) ∧ Aside0 (wc.heap[gb979]? = some (.cells #[(.slice Ao12 t964.length co12), .int .i64 t967] 32 (0, 0))) ∧ Aside0 (wc.heap[gb980]? = some (.cells #[.int .i64 t968, .int .i64 t969, .int .i64 t970, .int .i64 t971, .bool t972, .bool t973, .bool t974, .bool t975] 55 (0, 0))) ∧ Aside0 (wc.heap[gb981]? = some (.cells #[.int .i64 t976, .int .i64 t977] 51 (0, 0))) ∧ Aside0 (wc.heap[gb994]? = some (.cells #[(.slice Ao22 t982.length co22), .int .i64 t985] 32 (0, 0))) ∧ Aside0 (wc.heap[gb995]? = some (.cells #[.int .i64 t986, .int .i64 t987, .int .i64 t988, .int .i64 t989, .bool t990, .bool t991, .bool t992, .bool t993] 55 (0, 0))) ∧ Aside0 (wc.heap[gb1008]? = some (.cells #[(.slice Ao38 t996.length co38), .int .i64 t999] 32 (0, 0))) ∧ Aside0 (wc.heap[gb1009]? = some (.cells #[.int .i64 t1000, .int .i64 t1001, .int .i64 t1002, .int .i64 t1003, .bool t1004, .bool t1005, .bool t1006, .bool t1007] 55 (0, 0))) ∧ Aside0 (Below w.heap.size w wc))
     case first =>
      have H := HC113.out
      clear HC113
      by_cases c114 : (t964.length : Int) = 512
      ·rw [if_pos c114] at H
       have c114b0 : ((t964.length : Int) == 512) = true := beq_iff_eq.mpr c114
       have c114b1 : ((t964.length : Int) != 512) = false := bne_eq_false_iff_eq.mpr c114
       clear c114
       (first | rw [c114b0] | (simp only [i64_w, i32_w]; rw [c114b0]) | skip)
       replace H := bs H
       obtain ⟨t1011, A1150, H⟩ := H
       replace H : (laws_FnCalled.j1 kj6 (!t1011) t964 t967 t968 t969 t970 t971 t972 t973 t974 t975 t976 t977) = some r := H
       have A115 := am A1150
       clear A1150
       have H' := am H
       clear H
       have p_ := NB979_980.out
       have p_ := NB979_981.out
       have p_ := NB979_994.out
       have p_ := NB979_995.out
       have p_ := NB979_1008.out
       have p_ := NB979_1009.out
       obtain ⟨hcz122_0, hcz122_1⟩ := ce2 BK979
       obtain ⟨hfz122_0, hfz122_1⟩ := fz2 BK979
       have p_ := NB980_981.out
       have p_ := NB980_994.out
       have p_ := NB980_995.out
       have p_ := NB980_1008.out
       have p_ := NB980_1009.out
       obtain ⟨hcz128_0, hcz128_1, hcz128_2, hcz128_3, hcz128_4, hcz128_5, hcz128_6, hcz128_7⟩ := ce8 BK980
       obtain ⟨hfz128_0, hfz128_1, hfz128_2, hfz128_3, hfz128_4, hfz128_5, hfz128_6, hfz128_7⟩ := fz8 BK980
       go_wp2_with (first | (go_at_call 50; (with_reducible refine (spec_CpuOk.calls t968 t969 t970 t971 t972 t973 t974 t975 t1011 _ A115.out).mono ?_); rintro e w129 ⟨rfl, hb⟩; replace HP980 := am (Kd.Q_below (kq HP980.out) hb); replace HP995 := am (Kd.Q_below (kq HP995.out) hb); replace HP1009 := am (Kd.Q_below (kq HP1009.out) hb); replace BK979 := am (bb BK979 hb); replace BK980 := am (bb BK980 hb); replace BK981 := am (bb BK981 hb); replace BK994 := am (bb BK994 hb); replace BK995 := am (bb BK995 hb); replace BK1008 := am (bb BK1008 hb); replace BK1009 := am (bb BK1009 hb); replace HB := am (below_step (bw HB.out) hb); (try clear hb); (try clear hb2); (try clear hk); (try clear hi)))
       go_meet
       case rel => exact ⟨_, (!t1011), (by first | rfl | (simp; done) | (simp [*]; done)), H', ⟨by have := HJ6.out; first | omega | exact Nat.le_refl _⟩, ⟨kq HP980.out⟩, ⟨kq HP995.out⟩, ⟨kq HP1009.out⟩, ⟨kb BK979.out⟩, ⟨kb BK980.out⟩, ⟨kb BK981.out⟩, ⟨kb BK994.out⟩, ⟨kb BK995.out⟩, ⟨kb BK1008.out⟩, ⟨kb BK1009.out⟩, ⟨bw HB.out⟩⟩
      ·rw [if_neg c114] at H
       have c114b0 : ((t964.length : Int) == 512) = false := beq_eq_false_iff_ne.mpr c114
       have c114b1 : ((t964.length : Int) != 512) = true := bne_iff_ne.mpr c114
       (first | rw [c114b0] | (simp only [i64_w, i32_w]; rw [c114b0]) | skip)
       have H' := am H
       clear H
       have p_ := NB979_980.out
       have p_ := NB979_981.out
       have p_ := NB979_994.out
       have p_ := NB979_995.out
       have p_ := NB979_1008.out
       have p_ := NB979_1009.out
       obtain ⟨hcz136_0, hcz136_1⟩ := ce2 BK979
       obtain ⟨hfz136_0, hfz136_1⟩ := fz2 BK979
       go_wp2
       go_meet
       case rel => exact ⟨_, (true), (by first | rfl | (simp; done) | (simp [*]; done)), H', ⟨by have := HJ6.out; first | omega | exact Nat.le_refl _⟩, ⟨kq HP980.out⟩, ⟨kq HP995.out⟩, ⟨kq HP1009.out⟩, ⟨kb BK979.out⟩, ⟨kb BK980.out⟩, ⟨kb BK981.out⟩, ⟨kb BK994.out⟩, ⟨kb BK995.out⟩, ⟨kb BK1008.out⟩, ⟨kb BK1009.out⟩, ⟨bw HB.out⟩⟩
     case rest =>
      clear HC113; (try clear c1); (try clear c2); (try clear p2); (try clear c3); (try clear c4); (try clear c5); (try clear c6); (try clear c7); (try clear c8); (try clear c9); (try clear c10); (try clear c11); (try clear c12); (try clear c13); (try clear c14); (try clear c16); (try clear c23); (try clear c24); (try clear c25); (try clear c26); (try clear c28); (try clear c29); (try clear c30); (try clear c39); (try clear c40); (try clear c41); (try clear c42); (try clear c43); (try clear c44); (try clear c46); (try clear c47); (try clear c48); (try clear c49); (try clear c50); (try clear c52); (try clear c52b0); (try clear c53); (try clear c54); (try clear c55); (try clear c56); (try clear c57); (try clear c58); (try clear c60); (try clear c61); (try clear c62); (try clear c63); (try clear c64); (try clear c67); (try clear c68); (try clear c69); (try clear c70); (try clear c71); (try clear c72); (try clear c73); (try clear c75); (try clear c76); (try clear c77); (try clear c78); (try clear c79); (try clear c81); (try clear c82); (try clear c83); (try clear c84); (try clear c86); (try clear c87); (try clear c88); (try clear c90); (try clear c91); (try clear c92); (try clear c93); (try clear c94); (try clear c95); (try clear c97); (try clear c98); (try clear c99); (try clear c100); (try clear c101); (try clear c103); (try clear c104); (try clear c105); (try clear c106); (try clear c108); (try clear c109); (try clear c110); (try clear c112); (try clear c114); (try clear c114b0); (try clear c114b1); (try clear c116); (try clear c117); (try clear c118); (try clear c119); (try clear c120); (try clear c121); (try clear c123); (try clear c124); (try clear c125); (try clear c126); (try clear c127); (try clear c130); (try clear c131); (try clear c132); (try clear c133); (try clear c134); (try clear c135); (try clear hcz102_0); (try clear hcz102_1); (try clear hcz102_2); (try clear hcz102_3); (try clear hcz102_4); (try clear hcz102_5); (try clear hcz102_6); (try clear hcz102_7); (try clear hcz107_0); (try clear hcz107_1); (try clear hcz111_0); (try clear hcz111_1); (try clear hcz122_0); (try clear hcz122_1); (try clear hcz128_0); (try clear hcz128_1); (try clear hcz128_2); (try clear hcz128_3); (try clear hcz128_4); (try clear hcz128_5); (try clear hcz128_6); (try clear hcz128_7); (try clear hcz136_0); (try clear hcz136_1); (try clear hcz15_0); (try clear hcz15_1); (try clear hcz17_0); (try clear hcz17_1); (try clear hcz17_2); (try clear hcz17_3); (try clear hcz17_4); (try clear hcz17_5); (try clear hcz17_6); (try clear hcz17_7); (try clear hcz18_0); (try clear hcz18_1); (try clear hcz27_0); (try clear hcz27_1); (try clear hcz31_0); (try clear hcz31_1); (try clear hcz31_2); (try clear hcz31_3); (try clear hcz31_4); (try clear hcz31_5); (try clear hcz31_6); (try clear hcz31_7); (try clear hcz32_0); (try clear hcz32_1); (try clear hcz33_0); (try clear hcz33_1); (try clear hcz33_2); (try clear hcz33_3); (try clear hcz33_4); (try clear hcz33_5); (try clear hcz33_6); (try clear hcz33_7); (try clear hcz34_0); (try clear hcz34_1); (try clear hcz45_0); (try clear hcz45_1); (try clear hcz51_0); (try clear hcz51_1); (try clear hcz51_2); (try clear hcz51_3); (try clear hcz51_4); (try clear hcz51_5); (try clear hcz51_6); (try clear hcz51_7); (try clear hcz59_0); (try clear hcz59_1); (try clear hcz59_2); (try clear hcz59_3); (try clear hcz59_4); (try clear hcz59_5); (try clear hcz59_6); (try clear hcz59_7); (try clear hcz65_0); (try clear hcz65_1); (try clear hcz65_2); (try clear hcz65_3); (try clear hcz65_4); (try clear hcz65_5); (try clear hcz65_6); (try clear hcz65_7); (try clear hcz74_0); (try clear hcz74_1); (try clear hcz74_2); (try clear hcz74_3); (try clear hcz74_4); (try clear hcz74_5); (try clear hcz74_6); (try clear hcz74_7); (try clear hcz80_0); (try clear hcz80_1); (try clear hcz80_2); (try clear hcz80_3); (try clear hcz80_4); (try clear hcz80_5); (try clear hcz80_6); (try clear hcz80_7); (try clear hcz85_0); (try clear hcz85_1); (try clear hcz89_0); (try clear hcz89_1); (try clear hcz96_0); (try clear hcz96_1); (try clear hcz96_2); (try clear hcz96_3); (try clear hcz96_4); (try clear hcz96_5); (try clear hcz96_6); (try clear hcz96_7); (try clear hfz102_0); (try clear hfz102_1); (try clear hfz102_2); (try clear hfz102_3); (try clear hfz102_4); (try clear hfz102_5); (try clear hfz102_6); (try clear hfz102_7); (try clear hfz107_0); (try clear hfz107_1); (try clear hfz111_0); (try clear hfz111_1); (try clear hfz122_0); (try clear hfz122_1); (try clear hfz128_0); (try clear hfz128_1); (try clear hfz128_2); (try clear hfz128_3); (try clear hfz128_4); (try clear hfz128_5); (try clear hfz128_6); (try clear hfz128_7); (try clear hfz136_0); (try clear hfz136_1); (try clear hfz15_0); (try clear hfz15_1); (try clear hfz17_0); (try clear hfz17_1); (try clear hfz17_2); (try clear hfz17_3); (try clear hfz17_4); (try clear hfz17_5); (try clear hfz17_6); (try clear hfz17_7); (try clear hfz18_0); (try clear hfz18_1); (try clear hfz27_0); (try clear hfz27_1); (try clear hfz31_0); (try clear hfz31_1); (try clear hfz31_2); (try clear hfz31_3); (try clear hfz31_4); (try clear hfz31_5); (try clear hfz31_6); (try clear hfz31_7); (try clear hfz32_0); (try clear hfz32_1); (try clear hfz33_0); (try clear hfz33_1); (try clear hfz33_2); (try clear hfz33_3); (try clear hfz33_4); (try clear hfz33_5); (try clear hfz33_6); (try clear hfz33_7); (try clear hfz34_0); (try clear hfz34_1); (try clear hfz45_0); (try clear hfz45_1); (try clear hfz51_0); (try clear hfz51_1); (try clear hfz51_2); (try clear hfz51_3); (try clear hfz51_4); (try clear hfz51_5); (try clear hfz51_6); (try clear hfz51_7); (try clear hfz59_0); (try clear hfz59_1); (try clear hfz59_2); (try clear hfz59_3); (try clear hfz59_4); (try clear hfz59_5); (try clear hfz59_6); (try clear hfz59_7); (try clear hfz65_0); (try clear hfz65_1); (try clear hfz65_2); (try clear hfz65_3); (try clear hfz65_4); (try clear hfz65_5); (try clear hfz65_6); (try clear hfz65_7); (try clear hfz74_0); (try clear hfz74_1); (try clear hfz74_2); (try clear hfz74_3); (try clear hfz74_4); (try clear hfz74_5); (try clear hfz74_6); (try clear hfz74_7); (try clear hfz80_0); (try clear hfz80_1); (try clear hfz80_2); (try clear hfz80_3); (try clear hfz80_4); (try clear hfz80_5); (try clear hfz80_6); (try clear hfz80_7); (try clear hfz85_0); (try clear hfz85_1); (try clear hfz89_0); (try clear hfz89_1); (try clear hfz96_0); (try clear hfz96_1); (try clear hfz96_2); (try clear hfz96_3); (try clear hfz96_4); (try clear hfz96_5); (try clear hfz96_6); (try clear hfz96_7); (try clear p2)
      obtain ⟨kq, x70_112, rfl, HA, HJ112, HP980, HP995, HP1009, BK979, BK980, BK981, BK994, BK995, BK1008, BK1009, HB⟩ := hcut
      cases kq with
      | zero => exact absurd HA.out (by simp [laws_FnCalled.j1])
      | succ kj112 =>
       have H := HA.out
       clear HA
       simp only [laws_FnCalled.j1] at H
       by_cases c137 : x70_112 = true
       ·subst c137
        have H1 : (some true) = some r := by rw [if_pos rfl] at H; exact H
        clear H
        have H := H1
        clear H1
        obtain rfl := oj H
        go_wp2
        go_ret
        exact ⟨rt, bw HB.out⟩
       ·replace c137 := Bool.eq_false_iff.mpr c137
        subst c137
        have H1 : ((impl_OpOf.f kj112 (⟨#[106, 115, 114]⟩ : ByteArray)).bind fun t1012 => ((impl_Exec.f kj112 t964 t967 t968 t969 t970 t971 t972 t973 t974 t975 t1012 t977 0).bind fun bt1013 => ((impl_OpOf.f kj112 (⟨#[114, 116, 115]⟩ : ByteArray)).bind fun t1027 => ((impl_Exec.f kj112 bt1013.1 bt1013.2.1 bt1013.2.2.1 bt1013.2.2.2.1 bt1013.2.2.2.2.1 bt1013.2.2.2.2.2.1 bt1013.2.2.2.2.2.2.1 bt1013.2.2.2.2.2.2.2.1 bt1013.2.2.2.2.2.2.2.2.1 bt1013.2.2.2.2.2.2.2.2.2 t1027 0 0).bind fun bt1028 => ((impl_OpOf.f kj112 (⟨#[112, 104, 97]⟩ : ByteArray)).bind fun t1042 => ((impl_Exec.f kj112 t964 t967 t968 t969 t970 t971 t972 t973 t974 t975 t1042 0 0).bind fun bt1043 => ((impl_OpOf.f kj112 (⟨#[112, 108, 97]⟩ : ByteArray)).bind fun t1057 => ((impl_Exec.f kj112 bt1043.1 bt1043.2.1 bt1043.2.2.1 bt1043.2.2.2.1 bt1043.2.2.2.2.1 bt1043.2.2.2.2.2.1 bt1043.2.2.2.2.2.2.1 bt1043.2.2.2.2.2.2.2.1 bt1043.2.2.2.2.2.2.2.2.1 bt1043.2.2.2.2.2.2.2.2.2 t1057 0 0).bind fun bt1058 => ((impl_Addr.f t977).bind fun t1072 => (if bt1013.2.2.2.2.2.1 = t1072 then ((impl_Addr.f (wrap64 (t971 + 3))).bind fun t1073 => (if bt1028.2.2.2.2.2.1 = t1073 then (if bt1028.2.2.2.2.1 = t970 then (if bt1058.2.2.1 = t968 then (some (bt1058.2.2.2.2.1 == t970)) else (some false)) else (some false)) else (some false))) else (some false))))))))))) = some r := by rw [if_neg (show ¬ (false = true) by decide)] at H; exact H
        clear H
        have H := H1
        clear H1
        replace H := bs H
        obtain ⟨t1012, A1380, H⟩ := H
        replace H : ((impl_Exec.f kj112 t964 t967 t968 t969 t970 t971 t972 t973 t974 t975 t1012 t977 0).bind fun bt1013 => ((impl_OpOf.f kj112 (⟨#[114, 116, 115]⟩ : ByteArray)).bind fun t1027 => ((impl_Exec.f kj112 bt1013.1 bt1013.2.1 bt1013.2.2.1 bt1013.2.2.2.1 bt1013.2.2.2.2.1 bt1013.2.2.2.2.2.1 bt1013.2.2.2.2.2.2.1 bt1013.2.2.2.2.2.2.2.1 bt1013.2.2.2.2.2.2.2.2.1 bt1013.2.2.2.2.2.2.2.2.2 t1027 0 0).bind fun bt1028 => ((impl_OpOf.f kj112 (⟨#[112, 104, 97]⟩ : ByteArray)).bind fun t1042 => ((impl_Exec.f kj112 t964 t967 t968 t969 t970 t971 t972 t973 t974 t975 t1042 0 0).bind fun bt1043 => ((impl_OpOf.f kj112 (⟨#[112, 108, 97]⟩ : ByteArray)).bind fun t1057 => ((impl_Exec.f kj112 bt1043.1 bt1043.2.1 bt1043.2.2.1 bt1043.2.2.2.1 bt1043.2.2.2.2.1 bt1043.2.2.2.2.2.1 bt1043.2.2.2.2.2.2.1 bt1043.2.2.2.2.2.2.2.1 bt1043.2.2.2.2.2.2.2.2.1 bt1043.2.2.2.2.2.2.2.2.2 t1057 0 0).bind fun bt1058 => ((impl_Addr.f t977).bind fun t1072 => (if bt1013.2.2.2.2.2.1 = t1072 then ((impl_Addr.f (wrap64 (t971 + 3))).bind fun t1073 => (if bt1028.2.2.2.2.2.1 = t1073 then (if bt1028.2.2.2.2.1 = t970 then (if bt1058.2.2.1 = t968 then (some (bt1058.2.2.2.2.1 == t970)) else (some false)) else (some false)) else (some false))) else (some false)))))))))) = some r := H
        have A138 := am A1380
        clear A1380
        replace H := bs H
        obtain ⟨⟨t1013, t1016, t1017, t1018, t1019, t1020, t1021, t1022, t1023, t1024⟩, A1390, H⟩ := H
        replace H : ((impl_OpOf.f kj112 (⟨#[114, 116, 115]⟩ : ByteArray)).bind fun t1027 => ((impl_Exec.f kj112 t1013 t1016 t1017 t1018 t1019 t1020 t1021 t1022 t1023 t1024 t1027 0 0).bind fun bt1028 => ((impl_OpOf.f kj112 (⟨#[112, 104, 97]⟩ : ByteArray)).bind fun t1042 => ((impl_Exec.f kj112 t964 t967 t968 t969 t970 t971 t972 t973 t974 t975 t1042 0 0).bind fun bt1043 => ((impl_OpOf.f kj112 (⟨#[112, 108, 97]⟩ : ByteArray)).bind fun t1057 => ((impl_Exec.f kj112 bt1043.1 bt1043.2.1 bt1043.2.2.1 bt1043.2.2.2.1 bt1043.2.2.2.2.1 bt1043.2.2.2.2.2.1 bt1043.2.2.2.2.2.2.1 bt1043.2.2.2.2.2.2.2.1 bt1043.2.2.2.2.2.2.2.2.1 bt1043.2.2.2.2.2.2.2.2.2 t1057 0 0).bind fun bt1058 => ((impl_Addr.f t977).bind fun t1072 => (if t1020 = t1072 then ((impl_Addr.f (wrap64 (t971 + 3))).bind fun t1073 => (if bt1028.2.2.2.2.2.1 = t1073 then (if bt1028.2.2.2.2.1 = t970 then (if bt1058.2.2.1 = t968 then (some (bt1058.2.2.2.2.1 == t970)) else (some false)) else (some false)) else (some false))) else (some false))))))))) = some r := H
        have A139 := am A1390
        clear A1390
        replace H := bs H
        obtain ⟨t1027, A1400, H⟩ := H
        replace H : ((impl_Exec.f kj112 t1013 t1016 t1017 t1018 t1019 t1020 t1021 t1022 t1023 t1024 t1027 0 0).bind fun bt1028 => ((impl_OpOf.f kj112 (⟨#[112, 104, 97]⟩ : ByteArray)).bind fun t1042 => ((impl_Exec.f kj112 t964 t967 t968 t969 t970 t971 t972 t973 t974 t975 t1042 0 0).bind fun bt1043 => ((impl_OpOf.f kj112 (⟨#[112, 108, 97]⟩ : ByteArray)).bind fun t1057 => ((impl_Exec.f kj112 bt1043.1 bt1043.2.1 bt1043.2.2.1 bt1043.2.2.2.1 bt1043.2.2.2.2.1 bt1043.2.2.2.2.2.1 bt1043.2.2.2.2.2.2.1 bt1043.2.2.2.2.2.2.2.1 bt1043.2.2.2.2.2.2.2.2.1 bt1043.2.2.2.2.2.2.2.2.2 t1057 0 0).bind fun bt1058 => ((impl_Addr.f t977).bind fun t1072 => (if t1020 = t1072 then ((impl_Addr.f (wrap64 (t971 + 3))).bind fun t1073 => (if bt1028.2.2.2.2.2.1 = t1073 then (if bt1028.2.2.2.2.1 = t970 then (if bt1058.2.2.1 = t968 then (some (bt1058.2.2.2.2.1 == t970)) else (some false)) else (some false)) else (some false))) else (some false)))))))) = some r := H
        have A140 := am A1400
        clear A1400
        replace H := bs H
        obtain ⟨⟨t1028, t1031, t1032, t1033, t1034, t1035, t1036, t1037, t1038, t1039⟩, A1410, H⟩ := H
        replace H : ((impl_OpOf.f kj112 (⟨#[112, 104, 97]⟩ : ByteArray)).bind fun t1042 => ((impl_Exec.f kj112 t964 t967 t968 t969 t970 t971 t972 t973 t974 t975 t1042 0 0).bind fun bt1043 => ((impl_OpOf.f kj112 (⟨#[112, 108, 97]⟩ : ByteArray)).bind fun t1057 => ((impl_Exec.f kj112 bt1043.1 bt1043.2.1 bt1043.2.2.1 bt1043.2.2.2.1 bt1043.2.2.2.2.1 bt1043.2.2.2.2.2.1 bt1043.2.2.2.2.2.2.1 bt1043.2.2.2.2.2.2.2.1 bt1043.2.2.2.2.2.2.2.2.1 bt1043.2.2.2.2.2.2.2.2.2 t1057 0 0).bind fun bt1058 => ((impl_Addr.f t977).bind fun t1072 => (if t1020 = t1072 then ((impl_Addr.f (wrap64 (t971 + 3))).bind fun t1073 => (if t1035 = t1073 then (if t1034 = t970 then (if bt1058.2.2.1 = t968 then (some (bt1058.2.2.2.2.1 == t970)) else (some false)) else (some false)) else (some false))) else (some false))))))) = some r := H
        have A141 := am A1410
        clear A1410
        replace H := bs H
        obtain ⟨t1042, A1420, H⟩ := H
        replace H : ((impl_Exec.f kj112 t964 t967 t968 t969 t970 t971 t972 t973 t974 t975 t1042 0 0).bind fun bt1043 => ((impl_OpOf.f kj112 (⟨#[112, 108, 97]⟩ : ByteArray)).bind fun t1057 => ((impl_Exec.f kj112 bt1043.1 bt1043.2.1 bt1043.2.2.1 bt1043.2.2.2.1 bt1043.2.2.2.2.1 bt1043.2.2.2.2.2.1 bt1043.2.2.2.2.2.2.1 bt1043.2.2.2.2.2.2.2.1 bt1043.2.2.2.2.2.2.2.2.1 bt1043.2.2.2.2.2.2.2.2.2 t1057 0 0).bind fun bt1058 => ((impl_Addr.f t977).bind fun t1072 => (if t1020 = t1072 then ((impl_Addr.f (wrap64 (t971 + 3))).bind fun t1073 => (if t1035 = t1073 then (if t1034 = t970 then (if bt1058.2.2.1 = t968 then (some (bt1058.2.2.2.2.1 == t970)) else (some false)) else (some false)) else (some false))) else (some false)))))) = some r := H
        have A142 := am A1420
        clear A1420
        replace H := bs H
        obtain ⟨⟨t1043, t1046, t1047, t1048, t1049, t1050, t1051, t1052, t1053, t1054⟩, A1430, H⟩ := H
        replace H : ((impl_OpOf.f kj112 (⟨#[112, 108, 97]⟩ : ByteArray)).bind fun t1057 => ((impl_Exec.f kj112 t1043 t1046 t1047 t1048 t1049 t1050 t1051 t1052 t1053 t1054 t1057 0 0).bind fun bt1058 => ((impl_Addr.f t977).bind fun t1072 => (if t1020 = t1072 then ((impl_Addr.f (wrap64 (t971 + 3))).bind fun t1073 => (if t1035 = t1073 then (if t1034 = t970 then (if bt1058.2.2.1 = t968 then (some (bt1058.2.2.2.2.1 == t970)) else (some false)) else (some false)) else (some false))) else (some false))))) = some r := H
        have A143 := am A1430
        clear A1430
        replace H := bs H
        obtain ⟨t1057, A1440, H⟩ := H
        replace H : ((impl_Exec.f kj112 t1043 t1046 t1047 t1048 t1049 t1050 t1051 t1052 t1053 t1054 t1057 0 0).bind fun bt1058 => ((impl_Addr.f t977).bind fun t1072 => (if t1020 = t1072 then ((impl_Addr.f (wrap64 (t971 + 3))).bind fun t1073 => (if t1035 = t1073 then (if t1034 = t970 then (if bt1058.2.2.1 = t968 then (some (bt1058.2.2.2.2.1 == t970)) else (some false)) else (some false)) else (some false))) else (some false)))) = some r := H
        have A144 := am A1440
        clear A1440
        replace H := bs H
        obtain ⟨⟨t1058, t1061, t1062, t1063, t1064, t1065, t1066, t1067, t1068, t1069⟩, A1450, H⟩ := H
        replace H : ((impl_Addr.f t977).bind fun t1072 => (if t1020 = t1072 then ((impl_Addr.f (wrap64 (t971 + 3))).bind fun t1073 => (if t1035 = t1073 then (if t1034 = t970 then (if t1062 = t968 then (some (t1064 == t970)) else (some false)) else (some false)) else (some false))) else (some false))) = some r := H
        have A145 := am A1450
        clear A1450
        replace H := bs H
        obtain ⟨t1072, A1460, H⟩ := H
        replace H : (if t1020 = t1072 then ((impl_Addr.f (wrap64 (t971 + 3))).bind fun t1073 => (if t1035 = t1073 then (if t1034 = t970 then (if t1062 = t968 then (some (t1064 == t970)) else (some false)) else (some false)) else (some false))) else (some false)) = some r := H
        have A146 := am A1460
        clear A1460
        by_cases c147 : t1020 = t1072
        ·rw [if_pos c147] at H
         have c147b0 : (t1020 == t1072) = true := beq_iff_eq.mpr c147
         have c147b1 : (t1020 != t1072) = false := bne_eq_false_iff_eq.mpr c147
         clear c147
         replace H := bs H
         obtain ⟨t1073, A1480, H⟩ := H
         replace H : (if t1035 = t1073 then (if t1034 = t970 then (if t1062 = t968 then (some (t1064 == t970)) else (some false)) else (some false)) else (some false)) = some r := H
         have A148 := am A1480
         clear A1480
         by_cases c149 : t1035 = t1073
         ·rw [if_pos c149] at H
          have c149b0 : (t1035 == t1073) = true := beq_iff_eq.mpr c149
          have c149b1 : (t1035 != t1073) = false := bne_eq_false_iff_eq.mpr c149
          clear c149
          by_cases c150 : t1034 = t970
          ·rw [if_pos c150] at H
           have c150b0 : (t1034 == t970) = true := beq_iff_eq.mpr c150
           have c150b1 : (t1034 != t970) = false := bne_eq_false_iff_eq.mpr c150
           clear c150
           by_cases c151 : t1062 = t968
           ·rw [if_pos c151] at H
            have c151b0 : (t1062 == t968) = true := beq_iff_eq.mpr c151
            have c151b1 : (t1062 != t968) = false := bne_eq_false_iff_eq.mpr c151
            clear c151; clear hrt
            obtain rfl := oj H
            try go_wp2
            clear BK994 BK995 BK1008 BK1009 HP995 HP1009
            refine free_ (w0 := wc) (n := 14) (e := 12) (g := 9) (T := laws_FnCalled.T10) (bm 14 4095) (bm 14 3583) [72, 73, 74, 75, 76, 77, 78, 71, 79, 80, 11, 12] (fun j => XE wc.heap.size (.agg #[.slice Ao12 t964.length co12, .int .i64 t967]) (.agg #[.int .i64 t968, .int .i64 t969, .int .i64 t970, .int .i64 t971, .bool t972, .bool t973, .bool t974, .bool t975]) (.agg #[.int .i64 t1012, .int .i64 t977]) (.agg #[.int .i64 t1017, .int .i64 t1018, .int .i64 t1019, .int .i64 t1020, .bool t1021, .bool t1022, .bool t1023, .bool t1024]) (.pointer (some ⟨gb981, 1, none⟩)) (.int .i64 t977) t1012 t1013 t1016 ([0, 1, 2, 10, 11, 3, 4, 5, 6, 7, 8, 9].getD j 12)) (by kernel_rfl) rfl laws_FnCalled.tab10 (by kernel_rfl) (by kernel_rfl) (any_of laws_FnCalled.tab10 (by kernel_rfl)) (fun _ _ _ _ h => h) (fun _ => XE_below _) ?stepg ?lagg ?lastg
            case stepg =>
             intro i hi o ho a W hB hout hneed K hK
             have HBW := am hB
             have hcase : i = 0 ∨ i = 1 ∨ i = 2 ∨ i = 3 ∨ i = 4 ∨ i = 5 ∨ i = 6 ∨ i = 7 ∨ i = 8 ∨ i = 9 ∨ i = 10 ∨ i = 11 := by omega
             clear hB
             rcases hcase with rfl | rfl | rfl | rfl | rfl | rfl | rfl | rfl | rfl | rfl | rfl | rfl
             ·obtain rfl := oj ho
              have h := evg (show a.eval (.tmp 3) = .pointer (some ⟨gb979, 0, none⟩) from hout 3 (by decide))
              obtain ⟨d0, d1⟩ := ce2 ⟨blk_below (w := wc.drew) BK979.out HBW.out⟩
              exact va_ (.agg #[.slice Ao12 t964.length co12, .int .i64 t967]) hK rfl
             ·obtain rfl := oj ho
              have h := evg (show a.eval (.tmp 4) = .pointer (some ⟨gb980, 0, none⟩) from hout 4 (by decide))
              obtain ⟨d0, d1, d2, d3, d4, d5, d6, d7⟩ := ce8 ⟨blk_below (w := wc.drew) BK980.out HBW.out⟩
              exact va_ (.agg #[.int .i64 t968, .int .i64 t969, .int .i64 t970, .int .i64 t971, .bool t972, .bool t973, .bool t974, .bool t975]) hK rfl
             ·obtain rfl := oj ho
              refine gw_ Try.func51 #[.string (⟨#[106, 115, 114]⟩ : ByteArray)] ?_
              refine (impl_OpOf.calls kj112 _ t1012 W A138.out).mono ?_
              rintro e w' ⟨rfl, hb⟩
              exact ⟨_, rfl, hK.out _ _ hb rfl⟩
             ·obtain rfl := oj ho
              have h := evg (show a.eval (.tmp 5) = .pointer (some ⟨gb981, 0, none⟩) from hout 5 (by decide))
              exact va_ (.pointer (some ⟨gb981, 1, none⟩)) hK rfl
             ·obtain rfl := oj ho
              have h := evg (show a.eval (.tmp 75) = _ from hneed 3 (by decide))
              obtain ⟨d0, d1⟩ := ce2 ⟨blk_below (w := wc.drew) BK981.out HBW.out⟩
              exact va_ (.int .i64 t977) hK rfl
             ·obtain rfl := oj ho
              have e0 := evg (show a.eval (.tmp 74) = _ from hneed 2 (by decide))
              have e1 := evg (show a.eval (.tmp 76) = _ from hneed 4 (by decide))
              exact va_ (.agg #[.int .i64 t1012, .int .i64 t977]) hK rfl
             ·obtain rfl := oj ho
              have e0 : a.eval (.tmp 72) = _ := hneed 0 (by decide)
              have e1 : a.eval (.tmp 73) = _ := hneed 1 (by decide)
              have e3 : a.eval (.tmp 77) = _ := hneed 5 (by decide)
              obtain ⟨_, hc0, hC0⟩ := Kd.Q_reads' (Kd.Q_below (w := wc.drew) HP980.out HBW.out)
              refine goes_ Try.func48 (by kernel_rfl) rfl #[.agg #[.slice Ao12 t964.length co12, .int .i64 t967], .agg #[.int .i64 t968, .int .i64 t969, .int .i64 t970, .int .i64 t971, .bool t972, .bool t973, .bool t974, .bool t975], .agg #[.int .i64 t1012, .int .i64 t977], .int .i64 0] (by rfl) rfl rfl (by simp only [List.map_toArray, List.map_cons, List.map_nil, e0, e1, e3]; rfl) ?_
              refine (impl_Exec.calls kj112 _ _ t964 t967 t968 t969 t970 t971 t972 t973 t974 t975 t1012 t977 0 t1013 t1016 t1017 t1018 t1019 t1020 t1021 t1022 t1023 t1024 W hC0 hc0 A139.out).mono ?_
              rintro e w' ⟨u, rfl, hR, hb⟩
              exact ⟨_, rfl, hK.out _ _ hb ⟨u, rfl, Kd.R_lower hR HBW.out.size⟩⟩
             ·obtain rfl := oj ho
              have e : isPair _ _ _ _ (a.eval (.tmp 78)) W := hneed 6 (by decide)
              exact va_ (a.eval (.tmp 78)) hK e rfl
             ·obtain rfl := oj ho
              obtain ⟨u, e6, hR⟩ : isPair _ _ _ _ (a.eval (.tmp 71)) W := hneed 7 (by decide)
              have e := evg e6
              exact va_ (.agg #[u, .int .i64 t1016]) hK ⟨u, rfl, hR⟩
             ·obtain rfl := oj ho
              obtain ⟨u, e6, hR⟩ : isPair _ _ _ _ (a.eval (.tmp 71)) W := hneed 7 (by decide)
              have e := evg e6
              exact va_ (.agg #[.int .i64 t1017, .int .i64 t1018, .int .i64 t1019, .int .i64 t1020, .bool t1021, .bool t1022, .bool t1023, .bool t1024]) hK rfl
             ·obtain rfl := oj ho
              exact an_ _ _ hK HBW.out.size (fun _ _ h => h)
             ·obtain rfl := oj ho
              exact an_ _ _ hK HBW.out.size (fun _ _ h => h)
            case lagg =>
             intro o ho a W hout hneed
             obtain rfl := oj ho
             obtain ⟨u, e6, hR⟩ : isPair _ _ _ _ (a.eval (.tmp 71)) W := hneed 7 (by decide)
             refine ⟨(.agg #[.int .i64 t1017, .int .i64 t1018, .int .i64 t1019, .int .i64 t1020, .bool t1021, .bool t1022, .bool t1023, .bool t1024]), rfl, Or.inl ⟨by rfl, ?_⟩⟩
             intro w'
             have e6' := evg e6
             go_simp
            case lastg =>
             intro f vs W6 hB hE
             have HBW := am hB
             clear hB
             have q0 : vs 0 = _ := hE 0 (by decide)
             have q1 : vs 1 = _ := hE 1 (by decide)
             have q2 : vs 2 = _ := hE 2 (by decide)
             have q3 : vs 3 = _ := hE 3 (by decide)
             have q4 : vs 4 = _ := hE 4 (by decide)
             have q5 : vs 5 = _ := hE 5 (by decide)
             have q9 : vs 9 = _ := hE 9 (by decide)
             obtain ⟨ug, qP, _⟩ : isPair _ _ _ _ (vs 6) W6 := hE 6 (by decide)
             obtain ⟨vg, qV, _⟩ : isPair _ _ _ _ (vs 7) W6 := hE 7 (by decide)
             obtain ⟨zg, qM, hR6⟩ : isMem _ _ _ (vs 8) W6 := hE 8 (by decide)
             obtain ⟨gb1025, qX, hg1, hb1⟩ : isNew _ _ _ (vs 10) W6 := hE 10 (by decide)
             obtain ⟨gb1026, qY, hg2, hb2⟩ : isNew _ _ _ (vs 11) W6 := hE 11 (by decide)
             show wpAnyLast _ _ _ _ _ _ (f + 2) _ (putAll _ [(72, vs 0), (73, vs 1), (74, vs 2), (75, vs 3), (76, vs 4), (77, vs 5), (78, vs 6), (71, vs 7), (79, vs 8), (80, vs 9), (11, vs 10), (12, vs 11)]) W6
             rw [q0, q1, q2, q3, q4, q5, qP, qV, qM, q9, qX, qY]
             clear q0 q1 q2 q3 q4 q5 qP qV qM q9 qX qY hE
             refine norm_ (a' := ?_) ?_ ?_
             rotate_left
             ·simp only [putAll, Act.put, List.setIfInBounds_toArray, List.set_cons_zero, List.set_cons_succ]
              rfl
             obtain ⟨Ag10, cg10, rfl⟩ := Kd.R_slice hR6
             have hgg : gb1025 ≠ gb1026 := blk_ne hb1 hb2 (by decide)
             have hgg' : gb1026 ≠ gb1025 := fun h => hgg h.symm
             have X1 := am hb1
             have X2 := am hb2
             clear hb1 hb2
             refine ow_ 12 none (bm 14 8191) ⟨laws_FnCalled.tab10⟩ (fun K hK => ?_)
             refine skip_ (w1 := ?_) (by rfl) rfl ?_ ?_
             rotate_left
             ·obtain ⟨r0, r1⟩ := ce2 X1
              obtain ⟨f0, f1⟩ := fz2 X1
              go_simp
              rfl
             refine hK.out _ _ trivial (fun _ => ?_)
             clear hK K
             refine ow_ 13 none (bm 14 16383) ⟨laws_FnCalled.tab10⟩ (fun K hK => ?_)
             refine skip_ (w1 := ?_) (by rfl) rfl ?_ ?_
             rotate_left
             ·obtain ⟨r0, r1, r2, r3, r4, r5, r6, r7⟩ := ce8 X2
              obtain ⟨f0, f1, f2, f3, f4, f5, f6, f7⟩ := fz8 X2
              go_simp
              rfl
             refine hK.out _ _ trivial (fun _ => ?_)
             clear hK K
             refine done_ (done_of laws_FnCalled.tab10 (by kernel_rfl)) ?_
             obtain ⟨w301, hZ, s1, s2, hr, hb⟩ := stored_ hR6 X1.out X2.out HBW.out hg1 hg2 t1016 t1017 t1018 t1019 t1020 t1021 t1022 t1023 t1024
             rw [hZ]
             clear hZ X1 X2 hR6 HBW hg1 hg2 hgg hgg'
             replace BK979 := am (blk_below (w := wc.drew) BK979.out hb)
             replace BK980 := am (blk_below (w := wc.drew) BK980.out hb)
             replace BK981 := am (blk_below (w := wc.drew) BK981.out hb)
             replace HP980 := am (Kd.Q_below (w := wc.drew) HP980.out hb)
             replace HB := am (below_step (w := w) (W := wc.drew) (below_drew1 HB.out) hb)
             have HO1025 := am hr
             have BK1025 := am s1
             have BK1026 := am s2
             clear s1 s2 hr hb
             try go_wp2
             refine free_ (w0 := w301) (n := 12) (e := 10) (g := 7) (T := laws_FnCalled.T11) (bm 12 1023) (bm 12 895) [82, 83, 84, 85, 86, 81, 87, 88, 13, 14] (fun j => XE w301.heap.size (.agg #[.slice Ag10 t1013.length cg10, .int .i64 t1016]) (.agg #[.int .i64 t1017, .int .i64 t1018, .int .i64 t1019, .int .i64 t1020, .bool t1021, .bool t1022, .bool t1023, .bool t1024]) (.agg #[.int .i64 t1027, .int .i64 0]) (.agg #[.int .i64 t1032, .int .i64 t1033, .int .i64 t1034, .int .i64 t1035, .bool t1036, .bool t1037, .bool t1038, .bool t1039]) undef undef t1027 t1028 t1031 j) (by kernel_rfl) rfl laws_FnCalled.tab11 (by kernel_rfl) (by kernel_rfl) (any_of laws_FnCalled.tab11 (by kernel_rfl)) (fun _ _ _ _ h => h) (fun _ => XE_below _) ?stepg ?lagg ?lastg
             case stepg =>
              intro i hi o ho a W hB hout hneed K hK
              have HBW := am hB
              have hcase : i = 0 ∨ i = 1 ∨ i = 2 ∨ i = 3 ∨ i = 4 ∨ i = 5 ∨ i = 6 ∨ i = 7 ∨ i = 8 ∨ i = 9 := by omega
              clear hB
              rcases hcase with rfl | rfl | rfl | rfl | rfl | rfl | rfl | rfl | rfl | rfl
              ·obtain rfl := oj ho
               have h := evg (show a.eval (.tmp 11) = .pointer (some ⟨gb1025, 0, none⟩) from hout 11 (by decide))
               obtain ⟨d0, d1⟩ := ce2 ⟨blk_below (w := w301.drew) BK1025.out HBW.out⟩
               exact va_ (.agg #[.slice Ag10 t1013.length cg10, .int .i64 t1016]) hK rfl
              ·obtain rfl := oj ho
               have h := evg (show a.eval (.tmp 12) = .pointer (some ⟨gb1026, 0, none⟩) from hout 12 (by decide))
               obtain ⟨d0, d1, d2, d3, d4, d5, d6, d7⟩ := ce8 ⟨blk_below (w := w301.drew) BK1026.out HBW.out⟩
               exact va_ (.agg #[.int .i64 t1017, .int .i64 t1018, .int .i64 t1019, .int .i64 t1020, .bool t1021, .bool t1022, .bool t1023, .bool t1024]) hK rfl
              ·obtain rfl := oj ho
               refine gw_ Try.func51 #[.string (⟨#[114, 116, 115]⟩ : ByteArray)] ?_
               refine (impl_OpOf.calls kj112 _ t1027 W A140.out).mono ?_
               rintro e w' ⟨rfl, hb⟩
               exact ⟨_, rfl, hK.out _ _ hb rfl⟩
              ·obtain rfl := oj ho
               have e0 := evg (show a.eval (.tmp 84) = _ from hneed 2 (by decide))
               exact va_ (.agg #[.int .i64 t1027, .int .i64 0]) hK rfl
              ·obtain rfl := oj ho
               have e0 : a.eval (.tmp 82) = _ := hneed 0 (by decide)
               have e1 : a.eval (.tmp 83) = _ := hneed 1 (by decide)
               have e3 : a.eval (.tmp 85) = _ := hneed 3 (by decide)
               obtain ⟨_, hc0, hC0⟩ := Kd.Q_reads' (Kd.Q_below (w := w301.drew) HO1025.out HBW.out)
               refine goes_ Try.func48 (by kernel_rfl) rfl #[.agg #[.slice Ag10 t1013.length cg10, .int .i64 t1016], .agg #[.int .i64 t1017, .int .i64 t1018, .int .i64 t1019, .int .i64 t1020, .bool t1021, .bool t1022, .bool t1023, .bool t1024], .agg #[.int .i64 t1027, .int .i64 0], .int .i64 0] (by rfl) rfl rfl (by simp only [List.map_toArray, List.map_cons, List.map_nil, e0, e1, e3]; rfl) ?_
               refine (impl_Exec.calls kj112 _ _ t1013 t1016 t1017 t1018 t1019 t1020 t1021 t1022 t1023 t1024 t1027 0 0 t1028 t1031 t1032 t1033 t1034 t1035 t1036 t1037 t1038 t1039 W hC0 hc0 A141.out).mono ?_
               rintro e w' ⟨u, rfl, hR, hb⟩
               exact ⟨_, rfl, hK.out _ _ hb ⟨u, rfl, Kd.R_lower hR HBW.out.size⟩⟩
              ·obtain rfl := oj ho
               have e : isPair _ _ _ _ (a.eval (.tmp 86)) W := hneed 4 (by decide)
               exact va_ (a.eval (.tmp 86)) hK e rfl
              ·obtain rfl := oj ho
               obtain ⟨u, e6, hR⟩ : isPair _ _ _ _ (a.eval (.tmp 81)) W := hneed 5 (by decide)
               have e := evg e6
               exact va_ (.agg #[u, .int .i64 t1031]) hK ⟨u, rfl, hR⟩
              ·obtain rfl := oj ho
               obtain ⟨u, e6, hR⟩ : isPair _ _ _ _ (a.eval (.tmp 81)) W := hneed 5 (by decide)
               have e := evg e6
               exact va_ (.agg #[.int .i64 t1032, .int .i64 t1033, .int .i64 t1034, .int .i64 t1035, .bool t1036, .bool t1037, .bool t1038, .bool t1039]) hK rfl
              ·obtain rfl := oj ho
               exact an_ _ _ hK HBW.out.size (fun _ _ h => h)
              ·obtain rfl := oj ho
               exact an_ _ _ hK HBW.out.size (fun _ _ h => h)
             case lagg =>
              intro o ho a W hout hneed
              obtain rfl := oj ho
              obtain ⟨u, e6, hR⟩ : isPair _ _ _ _ (a.eval (.tmp 81)) W := hneed 5 (by decide)
              refine ⟨(.agg #[.int .i64 t1032, .int .i64 t1033, .int .i64 t1034, .int .i64 t1035, .bool t1036, .bool t1037, .bool t1038, .bool t1039]), rfl, Or.inl ⟨by rfl, ?_⟩⟩
              intro w'
              have e6' := evg e6
              go_simp
             case lastg =>
              intro f vs W6 hB hE
              have HBW := am hB
              clear hB
              have q0 : vs 0 = _ := hE 0 (by decide)
              have q1 : vs 1 = _ := hE 1 (by decide)
              have q2 : vs 2 = _ := hE 2 (by decide)
              have q3 : vs 3 = _ := hE 3 (by decide)
              have q7 : vs 7 = _ := hE 7 (by decide)
              obtain ⟨ug, qP, _⟩ : isPair _ _ _ _ (vs 4) W6 := hE 4 (by decide)
              obtain ⟨vg, qV, _⟩ : isPair _ _ _ _ (vs 5) W6 := hE 5 (by decide)
              obtain ⟨zg, qM, hR6⟩ : isMem _ _ _ (vs 6) W6 := hE 6 (by decide)
              obtain ⟨gb1040, qX, hg1, hb1⟩ : isNew _ _ _ (vs 8) W6 := hE 8 (by decide)
              obtain ⟨gb1041, qY, hg2, hb2⟩ : isNew _ _ _ (vs 9) W6 := hE 9 (by decide)
              show wpAnyLast _ _ _ _ _ _ (f + 2) _ (putAll _ [(82, vs 0), (83, vs 1), (84, vs 2), (85, vs 3), (86, vs 4), (81, vs 5), (87, vs 6), (88, vs 7), (13, vs 8), (14, vs 9)]) W6
              rw [q0, q1, q2, q3, qP, qV, qM, q7, qX, qY]
              clear q0 q1 q2 q3 qP qV qM q7 qX qY hE
              refine norm_ (a' := ?_) ?_ ?_
              rotate_left
              ·simp only [putAll, Act.put, List.setIfInBounds_toArray, List.set_cons_zero, List.set_cons_succ]
               rfl
              obtain ⟨Ag11, cg11, rfl⟩ := Kd.R_slice hR6
              have hgg : gb1040 ≠ gb1041 := blk_ne hb1 hb2 (by decide)
              have hgg' : gb1041 ≠ gb1040 := fun h => hgg h.symm
              have X1 := am hb1
              have X2 := am hb2
              clear hb1 hb2
              refine ow_ 10 none (bm 12 2047) ⟨laws_FnCalled.tab11⟩ (fun K hK => ?_)
              refine skip_ (w1 := ?_) (by rfl) rfl ?_ ?_
              rotate_left
              ·obtain ⟨r0, r1⟩ := ce2 X1
               obtain ⟨f0, f1⟩ := fz2 X1
               go_simp
               rfl
              refine hK.out _ _ trivial (fun _ => ?_)
              clear hK K
              refine ow_ 11 none (bm 12 4095) ⟨laws_FnCalled.tab11⟩ (fun K hK => ?_)
              refine skip_ (w1 := ?_) (by rfl) rfl ?_ ?_
              rotate_left
              ·obtain ⟨r0, r1, r2, r3, r4, r5, r6, r7⟩ := ce8 X2
               obtain ⟨f0, f1, f2, f3, f4, f5, f6, f7⟩ := fz8 X2
               go_simp
               rfl
              refine hK.out _ _ trivial (fun _ => ?_)
              clear hK K
              refine done_ (done_of laws_FnCalled.tab11 (by kernel_rfl)) ?_
              obtain ⟨w302, hZ, s1, s2, hr, hb⟩ := stored_ hR6 X1.out X2.out HBW.out hg1 hg2 t1031 t1032 t1033 t1034 t1035 t1036 t1037 t1038 t1039
              rw [hZ]
              clear hZ X1 X2 hR6 HBW hg1 hg2 hgg hgg'
              replace BK979 := am (blk_below (w := w301.drew) BK979.out hb)
              replace BK980 := am (blk_below (w := w301.drew) BK980.out hb)
              replace BK981 := am (blk_below (w := w301.drew) BK981.out hb)
              replace BK1026 := am (blk_below (w := w301.drew) BK1026.out hb)
              replace HP980 := am (Kd.Q_below (w := w301.drew) HP980.out hb)
              replace HB := am (below_step (w := w) (W := w301.drew) (below_drew1 HB.out) hb)
              have HO1040 := am hr
              have BK1040 := am s1
              have BK1041 := am s2
              clear s1 s2 hr hb
              try go_wp2
              refine free_ (w0 := w302) (n := 12) (e := 10) (g := 7) (T := laws_FnCalled.T12) (bm 12 1023) (bm 12 895) [90, 91, 92, 93, 94, 89, 95, 96, 15, 16] (fun j => XE w302.heap.size (.agg #[.slice Ao12 t964.length co12, .int .i64 t967]) (.agg #[.int .i64 t968, .int .i64 t969, .int .i64 t970, .int .i64 t971, .bool t972, .bool t973, .bool t974, .bool t975]) (.agg #[.int .i64 t1042, .int .i64 0]) (.agg #[.int .i64 t1047, .int .i64 t1048, .int .i64 t1049, .int .i64 t1050, .bool t1051, .bool t1052, .bool t1053, .bool t1054]) undef undef t1042 t1043 t1046 j) (by kernel_rfl) rfl laws_FnCalled.tab12 (by kernel_rfl) (by kernel_rfl) (any_of laws_FnCalled.tab12 (by kernel_rfl)) (fun _ _ _ _ h => h) (fun _ => XE_below _) ?stepg ?lagg ?lastg
              case stepg =>
               intro i hi o ho a W hB hout hneed K hK
               have HBW := am hB
               have hcase : i = 0 ∨ i = 1 ∨ i = 2 ∨ i = 3 ∨ i = 4 ∨ i = 5 ∨ i = 6 ∨ i = 7 ∨ i = 8 ∨ i = 9 := by omega
               clear hB
               rcases hcase with rfl | rfl | rfl | rfl | rfl | rfl | rfl | rfl | rfl | rfl
               ·obtain rfl := oj ho
                have h := evg (show a.eval (.tmp 3) = .pointer (some ⟨gb979, 0, none⟩) from hout 3 (by decide))
                obtain ⟨d0, d1⟩ := ce2 ⟨blk_below (w := w302.drew) BK979.out HBW.out⟩
                exact va_ (.agg #[.slice Ao12 t964.length co12, .int .i64 t967]) hK rfl
               ·obtain rfl := oj ho
                have h := evg (show a.eval (.tmp 4) = .pointer (some ⟨gb980, 0, none⟩) from hout 4 (by decide))
                obtain ⟨d0, d1, d2, d3, d4, d5, d6, d7⟩ := ce8 ⟨blk_below (w := w302.drew) BK980.out HBW.out⟩
                exact va_ (.agg #[.int .i64 t968, .int .i64 t969, .int .i64 t970, .int .i64 t971, .bool t972, .bool t973, .bool t974, .bool t975]) hK rfl
               ·obtain rfl := oj ho
                refine gw_ Try.func51 #[.string (⟨#[112, 104, 97]⟩ : ByteArray)] ?_
                refine (impl_OpOf.calls kj112 _ t1042 W A142.out).mono ?_
                rintro e w' ⟨rfl, hb⟩
                exact ⟨_, rfl, hK.out _ _ hb rfl⟩
               ·obtain rfl := oj ho
                have e0 := evg (show a.eval (.tmp 92) = _ from hneed 2 (by decide))
                exact va_ (.agg #[.int .i64 t1042, .int .i64 0]) hK rfl
               ·obtain rfl := oj ho
                have e0 : a.eval (.tmp 90) = _ := hneed 0 (by decide)
                have e1 : a.eval (.tmp 91) = _ := hneed 1 (by decide)
                have e3 : a.eval (.tmp 93) = _ := hneed 3 (by decide)
                obtain ⟨_, hc0, hC0⟩ := Kd.Q_reads' (Kd.Q_below (w := w302.drew) HP980.out HBW.out)
                refine goes_ Try.func48 (by kernel_rfl) rfl #[.agg #[.slice Ao12 t964.length co12, .int .i64 t967], .agg #[.int .i64 t968, .int .i64 t969, .int .i64 t970, .int .i64 t971, .bool t972, .bool t973, .bool t974, .bool t975], .agg #[.int .i64 t1042, .int .i64 0], .int .i64 0] (by rfl) rfl rfl (by simp only [List.map_toArray, List.map_cons, List.map_nil, e0, e1, e3]; rfl) ?_
                refine (impl_Exec.calls kj112 _ _ t964 t967 t968 t969 t970 t971 t972 t973 t974 t975 t1042 0 0 t1043 t1046 t1047 t1048 t1049 t1050 t1051 t1052 t1053 t1054 W hC0 hc0 A143.out).mono ?_
                rintro e w' ⟨u, rfl, hR, hb⟩
                exact ⟨_, rfl, hK.out _ _ hb ⟨u, rfl, Kd.R_lower hR HBW.out.size⟩⟩
               ·obtain rfl := oj ho
                have e : isPair _ _ _ _ (a.eval (.tmp 94)) W := hneed 4 (by decide)
                exact va_ (a.eval (.tmp 94)) hK e rfl
               ·obtain rfl := oj ho
                obtain ⟨u, e6, hR⟩ : isPair _ _ _ _ (a.eval (.tmp 89)) W := hneed 5 (by decide)
                have e := evg e6
                exact va_ (.agg #[u, .int .i64 t1046]) hK ⟨u, rfl, hR⟩
               ·obtain rfl := oj ho
                obtain ⟨u, e6, hR⟩ : isPair _ _ _ _ (a.eval (.tmp 89)) W := hneed 5 (by decide)
                have e := evg e6
                exact va_ (.agg #[.int .i64 t1047, .int .i64 t1048, .int .i64 t1049, .int .i64 t1050, .bool t1051, .bool t1052, .bool t1053, .bool t1054]) hK rfl
               ·obtain rfl := oj ho
                exact an_ _ _ hK HBW.out.size (fun _ _ h => h)
               ·obtain rfl := oj ho
                exact an_ _ _ hK HBW.out.size (fun _ _ h => h)
              case lagg =>
               intro o ho a W hout hneed
               obtain rfl := oj ho
               obtain ⟨u, e6, hR⟩ : isPair _ _ _ _ (a.eval (.tmp 89)) W := hneed 5 (by decide)
               refine ⟨(.agg #[.int .i64 t1047, .int .i64 t1048, .int .i64 t1049, .int .i64 t1050, .bool t1051, .bool t1052, .bool t1053, .bool t1054]), rfl, Or.inl ⟨by rfl, ?_⟩⟩
               intro w'
               have e6' := evg e6
               go_simp
              case lastg =>
               intro f vs W6 hB hE
               have HBW := am hB
               clear hB
               have q0 : vs 0 = _ := hE 0 (by decide)
               have q1 : vs 1 = _ := hE 1 (by decide)
               have q2 : vs 2 = _ := hE 2 (by decide)
               have q3 : vs 3 = _ := hE 3 (by decide)
               have q7 : vs 7 = _ := hE 7 (by decide)
               obtain ⟨ug, qP, _⟩ : isPair _ _ _ _ (vs 4) W6 := hE 4 (by decide)
               obtain ⟨vg, qV, _⟩ : isPair _ _ _ _ (vs 5) W6 := hE 5 (by decide)
               obtain ⟨zg, qM, hR6⟩ : isMem _ _ _ (vs 6) W6 := hE 6 (by decide)
               obtain ⟨gb1055, qX, hg1, hb1⟩ : isNew _ _ _ (vs 8) W6 := hE 8 (by decide)
               obtain ⟨gb1056, qY, hg2, hb2⟩ : isNew _ _ _ (vs 9) W6 := hE 9 (by decide)
               show wpAnyLast _ _ _ _ _ _ (f + 2) _ (putAll _ [(90, vs 0), (91, vs 1), (92, vs 2), (93, vs 3), (94, vs 4), (89, vs 5), (95, vs 6), (96, vs 7), (15, vs 8), (16, vs 9)]) W6
               rw [q0, q1, q2, q3, qP, qV, qM, q7, qX, qY]
               clear q0 q1 q2 q3 qP qV qM q7 qX qY hE
               refine norm_ (a' := ?_) ?_ ?_
               rotate_left
               ·simp only [putAll, Act.put, List.setIfInBounds_toArray, List.set_cons_zero, List.set_cons_succ]
                rfl
               obtain ⟨Ag12, cg12, rfl⟩ := Kd.R_slice hR6
               have hgg : gb1055 ≠ gb1056 := blk_ne hb1 hb2 (by decide)
               have hgg' : gb1056 ≠ gb1055 := fun h => hgg h.symm
               have X1 := am hb1
               have X2 := am hb2
               clear hb1 hb2
               refine ow_ 10 none (bm 12 2047) ⟨laws_FnCalled.tab12⟩ (fun K hK => ?_)
               refine skip_ (w1 := ?_) (by rfl) rfl ?_ ?_
               rotate_left
               ·obtain ⟨r0, r1⟩ := ce2 X1
                obtain ⟨f0, f1⟩ := fz2 X1
                go_simp
                rfl
               refine hK.out _ _ trivial (fun _ => ?_)
               clear hK K
               refine ow_ 11 none (bm 12 4095) ⟨laws_FnCalled.tab12⟩ (fun K hK => ?_)
               refine skip_ (w1 := ?_) (by rfl) rfl ?_ ?_
               rotate_left
               ·obtain ⟨r0, r1, r2, r3, r4, r5, r6, r7⟩ := ce8 X2
                obtain ⟨f0, f1, f2, f3, f4, f5, f6, f7⟩ := fz8 X2
                go_simp
                rfl
               refine hK.out _ _ trivial (fun _ => ?_)
               clear hK K
               refine done_ (done_of laws_FnCalled.tab12 (by kernel_rfl)) ?_
               obtain ⟨w303, hZ, s1, s2, hr, hb⟩ := stored_ hR6 X1.out X2.out HBW.out hg1 hg2 t1046 t1047 t1048 t1049 t1050 t1051 t1052 t1053 t1054
               rw [hZ]
               clear hZ X1 X2 hR6 HBW hg1 hg2 hgg hgg'
               replace BK980 := am (blk_below (w := w302.drew) BK980.out hb)
               replace BK981 := am (blk_below (w := w302.drew) BK981.out hb)
               replace BK1026 := am (blk_below (w := w302.drew) BK1026.out hb)
               replace BK1041 := am (blk_below (w := w302.drew) BK1041.out hb)
               replace HB := am (below_step (w := w) (W := w302.drew) (below_drew1 HB.out) hb)
               have HO1055 := am hr
               have BK1055 := am s1
               have BK1056 := am s2
               clear s1 s2 hr hb
               try go_wp2
               refine free_ (w0 := w303) (n := 12) (e := 10) (g := 7) (T := laws_FnCalled.T13) (bm 12 1023) (bm 12 895) [98, 99, 100, 101, 102, 97, 103, 104, 17, 18] (fun j => XE w303.heap.size (.agg #[.slice Ag12 t1043.length cg12, .int .i64 t1046]) (.agg #[.int .i64 t1047, .int .i64 t1048, .int .i64 t1049, .int .i64 t1050, .bool t1051, .bool t1052, .bool t1053, .bool t1054]) (.agg #[.int .i64 t1057, .int .i64 0]) (.agg #[.int .i64 t1062, .int .i64 t1063, .int .i64 t1064, .int .i64 t1065, .bool t1066, .bool t1067, .bool t1068, .bool t1069]) undef undef t1057 t1058 t1061 j) (by kernel_rfl) rfl laws_FnCalled.tab13 (by kernel_rfl) (by kernel_rfl) (any_of laws_FnCalled.tab13 (by kernel_rfl)) (fun _ _ _ _ h => h) (fun _ => XE_below _) ?stepg ?lagg ?lastg
               case stepg =>
                intro i hi o ho a W hB hout hneed K hK
                have HBW := am hB
                have hcase : i = 0 ∨ i = 1 ∨ i = 2 ∨ i = 3 ∨ i = 4 ∨ i = 5 ∨ i = 6 ∨ i = 7 ∨ i = 8 ∨ i = 9 := by omega
                clear hB
                rcases hcase with rfl | rfl | rfl | rfl | rfl | rfl | rfl | rfl | rfl | rfl
                ·obtain rfl := oj ho
                 have h := evg (show a.eval (.tmp 15) = .pointer (some ⟨gb1055, 0, none⟩) from hout 15 (by decide))
                 obtain ⟨d0, d1⟩ := ce2 ⟨blk_below (w := w303.drew) BK1055.out HBW.out⟩
                 exact va_ (.agg #[.slice Ag12 t1043.length cg12, .int .i64 t1046]) hK rfl
                ·obtain rfl := oj ho
                 have h := evg (show a.eval (.tmp 16) = .pointer (some ⟨gb1056, 0, none⟩) from hout 16 (by decide))
                 obtain ⟨d0, d1, d2, d3, d4, d5, d6, d7⟩ := ce8 ⟨blk_below (w := w303.drew) BK1056.out HBW.out⟩
                 exact va_ (.agg #[.int .i64 t1047, .int .i64 t1048, .int .i64 t1049, .int .i64 t1050, .bool t1051, .bool t1052, .bool t1053, .bool t1054]) hK rfl
                ·obtain rfl := oj ho
                 refine gw_ Try.func51 #[.string (⟨#[112, 108, 97]⟩ : ByteArray)] ?_
                 refine (impl_OpOf.calls kj112 _ t1057 W A144.out).mono ?_
                 rintro e w' ⟨rfl, hb⟩
                 exact ⟨_, rfl, hK.out _ _ hb rfl⟩
                ·obtain rfl := oj ho
                 have e0 := evg (show a.eval (.tmp 100) = _ from hneed 2 (by decide))
                 exact va_ (.agg #[.int .i64 t1057, .int .i64 0]) hK rfl
                ·obtain rfl := oj ho
                 have e0 : a.eval (.tmp 98) = _ := hneed 0 (by decide)
                 have e1 : a.eval (.tmp 99) = _ := hneed 1 (by decide)
                 have e3 : a.eval (.tmp 101) = _ := hneed 3 (by decide)
                 obtain ⟨_, hc0, hC0⟩ := Kd.Q_reads' (Kd.Q_below (w := w303.drew) HO1055.out HBW.out)
                 refine goes_ Try.func48 (by kernel_rfl) rfl #[.agg #[.slice Ag12 t1043.length cg12, .int .i64 t1046], .agg #[.int .i64 t1047, .int .i64 t1048, .int .i64 t1049, .int .i64 t1050, .bool t1051, .bool t1052, .bool t1053, .bool t1054], .agg #[.int .i64 t1057, .int .i64 0], .int .i64 0] (by rfl) rfl rfl (by simp only [List.map_toArray, List.map_cons, List.map_nil, e0, e1, e3]; rfl) ?_
                 refine (impl_Exec.calls kj112 _ _ t1043 t1046 t1047 t1048 t1049 t1050 t1051 t1052 t1053 t1054 t1057 0 0 t1058 t1061 t1062 t1063 t1064 t1065 t1066 t1067 t1068 t1069 W hC0 hc0 A145.out).mono ?_
                 rintro e w' ⟨u, rfl, hR, hb⟩
                 exact ⟨_, rfl, hK.out _ _ hb ⟨u, rfl, Kd.R_lower hR HBW.out.size⟩⟩
                ·obtain rfl := oj ho
                 have e : isPair _ _ _ _ (a.eval (.tmp 102)) W := hneed 4 (by decide)
                 exact va_ (a.eval (.tmp 102)) hK e rfl
                ·obtain rfl := oj ho
                 obtain ⟨u, e6, hR⟩ : isPair _ _ _ _ (a.eval (.tmp 97)) W := hneed 5 (by decide)
                 have e := evg e6
                 exact va_ (.agg #[u, .int .i64 t1061]) hK ⟨u, rfl, hR⟩
                ·obtain rfl := oj ho
                 obtain ⟨u, e6, hR⟩ : isPair _ _ _ _ (a.eval (.tmp 97)) W := hneed 5 (by decide)
                 have e := evg e6
                 exact va_ (.agg #[.int .i64 t1062, .int .i64 t1063, .int .i64 t1064, .int .i64 t1065, .bool t1066, .bool t1067, .bool t1068, .bool t1069]) hK rfl
                ·obtain rfl := oj ho
                 exact an_ _ _ hK HBW.out.size (fun _ _ h => h)
                ·obtain rfl := oj ho
                 exact an_ _ _ hK HBW.out.size (fun _ _ h => h)
               case lagg =>
                intro o ho a W hout hneed
                obtain rfl := oj ho
                obtain ⟨u, e6, hR⟩ : isPair _ _ _ _ (a.eval (.tmp 97)) W := hneed 5 (by decide)
                refine ⟨(.agg #[.int .i64 t1062, .int .i64 t1063, .int .i64 t1064, .int .i64 t1065, .bool t1066, .bool t1067, .bool t1068, .bool t1069]), rfl, Or.inl ⟨by rfl, ?_⟩⟩
                intro w'
                have e6' := evg e6
                go_simp
               case lastg =>
                intro f vs W6 hB hE
                have HBW := am hB
                clear hB
                have q0 : vs 0 = _ := hE 0 (by decide)
                have q1 : vs 1 = _ := hE 1 (by decide)
                have q2 : vs 2 = _ := hE 2 (by decide)
                have q3 : vs 3 = _ := hE 3 (by decide)
                have q7 : vs 7 = _ := hE 7 (by decide)
                obtain ⟨ug, qP, _⟩ : isPair _ _ _ _ (vs 4) W6 := hE 4 (by decide)
                obtain ⟨vg, qV, _⟩ : isPair _ _ _ _ (vs 5) W6 := hE 5 (by decide)
                obtain ⟨zg, qM, hR6⟩ : isMem _ _ _ (vs 6) W6 := hE 6 (by decide)
                obtain ⟨gb1070, qX, hg1, hb1⟩ : isNew _ _ _ (vs 8) W6 := hE 8 (by decide)
                obtain ⟨gb1071, qY, hg2, hb2⟩ : isNew _ _ _ (vs 9) W6 := hE 9 (by decide)
                show wpAnyLast _ _ _ _ _ _ (f + 2) _ (putAll _ [(98, vs 0), (99, vs 1), (100, vs 2), (101, vs 3), (102, vs 4), (97, vs 5), (103, vs 6), (104, vs 7), (17, vs 8), (18, vs 9)]) W6
                rw [q0, q1, q2, q3, qP, qV, qM, q7, qX, qY]
                clear q0 q1 q2 q3 qP qV qM q7 qX qY hE
                refine norm_ (a' := ?_) ?_ ?_
                rotate_left
                ·simp only [putAll, Act.put, List.setIfInBounds_toArray, List.set_cons_zero, List.set_cons_succ]
                 rfl
                obtain ⟨Ag13, cg13, rfl⟩ := Kd.R_slice hR6
                have hgg : gb1070 ≠ gb1071 := blk_ne hb1 hb2 (by decide)
                have hgg' : gb1071 ≠ gb1070 := fun h => hgg h.symm
                have X1 := am hb1
                have X2 := am hb2
                clear hb1 hb2
                refine ow_ 10 none (bm 12 2047) ⟨laws_FnCalled.tab13⟩ (fun K hK => ?_)
                refine skip_ (w1 := ?_) (by rfl) rfl ?_ ?_
                rotate_left
                ·obtain ⟨r0, r1⟩ := ce2 X1
                 obtain ⟨f0, f1⟩ := fz2 X1
                 go_simp
                 rfl
                refine hK.out _ _ trivial (fun _ => ?_)
                clear hK K
                refine ow_ 11 none (bm 12 4095) ⟨laws_FnCalled.tab13⟩ (fun K hK => ?_)
                refine skip_ (w1 := ?_) (by rfl) rfl ?_ ?_
                rotate_left
                ·obtain ⟨r0, r1, r2, r3, r4, r5, r6, r7⟩ := ce8 X2
                 obtain ⟨f0, f1, f2, f3, f4, f5, f6, f7⟩ := fz8 X2
                 go_simp
                 rfl
                refine hK.out _ _ trivial (fun _ => ?_)
                clear hK K
                refine done_ (done_of laws_FnCalled.tab13 (by kernel_rfl)) ?_
                obtain ⟨w223, hZ, s1, s2, hr, hb⟩ := stored_ hR6 X1.out X2.out HBW.out hg1 hg2 t1061 t1062 t1063 t1064 t1065 t1066 t1067 t1068 t1069
                rw [hZ]
                clear hZ X1 X2 hR6 HBW hg1 hg2 hgg hgg'
                replace BK980 := am (blk_below (w := w303.drew) BK980.out hb)
                replace BK981 := am (blk_below (w := w303.drew) BK981.out hb)
                replace BK1026 := am (blk_below (w := w303.drew) BK1026.out hb)
                replace BK1041 := am (blk_below (w := w303.drew) BK1041.out hb)
                replace HB := am (below_step (w := w) (W := w303.drew) (below_drew1 HB.out) hb)
                have HO1070 := am hr
                have BK1070 := am s1
                have BK1071 := am s2
                clear s1 s2 hr hb
                try go_wp2
                replace BK980 := am (blk_drew BK980.out)
                replace BK981 := am (blk_drew BK981.out)
                replace BK1026 := am (blk_drew BK1026.out)
                replace BK1041 := am (blk_drew BK1041.out)
                replace BK1071 := am (blk_drew BK1071.out)
                replace HB := am (below_drew1 HB.out)
                refine start_ (n := 37) (S := fun w' => w'.cell? ⟨gb1026, 0, none⟩ = some (.int .i64 t1017) ∧ w'.cell? ⟨gb1026, 1, none⟩ = some (.int .i64 t1018) ∧ w'.cell? ⟨gb1026, 2, none⟩ = some (.int .i64 t1019) ∧ w'.cell? ⟨gb1026, 3, none⟩ = some (.int .i64 t1020) ∧ w'.cell? ⟨gb1026, 4, none⟩ = some (.bool t1021) ∧ w'.cell? ⟨gb1026, 5, none⟩ = some (.bool t1022) ∧ w'.cell? ⟨gb1026, 6, none⟩ = some (.bool t1023) ∧ w'.cell? ⟨gb1026, 7, none⟩ = some (.bool t1024) ∧ w'.cell? ⟨gb981, 0, none⟩ = some (.int .i64 t976) ∧ w'.cell? ⟨gb981, 1, none⟩ = some (.int .i64 t977) ∧ w'.cell? ⟨gb1041, 0, none⟩ = some (.int .i64 t1032) ∧ w'.cell? ⟨gb1041, 1, none⟩ = some (.int .i64 t1033) ∧ w'.cell? ⟨gb1041, 2, none⟩ = some (.int .i64 t1034) ∧ w'.cell? ⟨gb1041, 3, none⟩ = some (.int .i64 t1035) ∧ w'.cell? ⟨gb1041, 4, none⟩ = some (.bool t1036) ∧ w'.cell? ⟨gb1041, 5, none⟩ = some (.bool t1037) ∧ w'.cell? ⟨gb1041, 6, none⟩ = some (.bool t1038) ∧ w'.cell? ⟨gb1041, 7, none⟩ = some (.bool t1039) ∧ w'.cell? ⟨gb980, 0, none⟩ = some (.int .i64 t968) ∧ w'.cell? ⟨gb980, 1, none⟩ = some (.int .i64 t969) ∧ w'.cell? ⟨gb980, 2, none⟩ = some (.int .i64 t970) ∧ w'.cell? ⟨gb980, 3, none⟩ = some (.int .i64 t971) ∧ w'.cell? ⟨gb980, 4, none⟩ = some (.bool t972) ∧ w'.cell? ⟨gb980, 5, none⟩ = some (.bool t973) ∧ w'.cell? ⟨gb980, 6, none⟩ = some (.bool t974) ∧ w'.cell? ⟨gb980, 7, none⟩ = some (.bool t975) ∧ w'.cell? ⟨gb1071, 0, none⟩ = some (.int .i64 t1062) ∧ w'.cell? ⟨gb1071, 1, none⟩ = some (.int .i64 t1063) ∧ w'.cell? ⟨gb1071, 2, none⟩ = some (.int .i64 t1064) ∧ w'.cell? ⟨gb1071, 3, none⟩ = some (.int .i64 t1065) ∧ w'.cell? ⟨gb1071, 4, none⟩ = some (.bool t1066) ∧ w'.cell? ⟨gb1071, 5, none⟩ = some (.bool t1067) ∧ w'.cell? ⟨gb1071, 6, none⟩ = some (.bool t1068) ∧ w'.cell? ⟨gb1071, 7, none⟩ = some (.bool t1069)) (ds := []) (bm 37 0) (by kernel_rfl) rfl (by kernel_rfl) ⟨cl BK1026 0, cl BK1026 1, cl BK1026 2, cl BK1026 3, cl BK1026 4, cl BK1026 5, cl BK1026 6, cl BK1026 7, cl BK981 0, cl BK981 1, cl BK1041 0, cl BK1041 1, cl BK1041 2, cl BK1041 3, cl BK1041 4, cl BK1041 5, cl BK1041 6, cl BK1041 7, cl BK980 0, cl BK980 1, cl BK980 2, cl BK980 3, cl BK980 4, cl BK980 5, cl BK980 6, cl BK980 7, cl BK1071 0, cl BK1071 1, cl BK1071 2, cl BK1071 3, cl BK1071 4, cl BK1071 5, cl BK1071 6, cl BK1071 7⟩ (fun hHeld => ?_); refine with_tabW laws_FnCalled.tab14 laws_FnCalled.bits14 (fun HT_ HW_ => ?_)
                generalize w223.drew = w224 at BK980 BK981 BK1026 BK1041 BK1071 HB hHeld ⊢
                refine pw_ 0 (some 105) (bm 37 1) HT_ ?_
                refine pw_ 2 (some 107) (bm 37 5) HT_ ?_
                refine tw_ 1 (some 106) (bm 37 7) HT_ HW_ hHeld ?_
                refine tw_ 3 (some 108) (bm 37 15) HT_ HW_ hHeld ?_
                refine ow_ 4 (some 109) (bm 37 31) HT_ (fun K hK => ?_)
                refine gw_ Try.func52 #[.int .i64 t977] ?_
                with_reducible refine (impl_Addr.calls t977 t1072 _ A146.out).mono ?_
                rintro e w' ⟨rfl, ⟨nd, rfl⟩⟩
                refine ⟨_, rfl, ?_⟩
                replace BK980 := am (blk_drewN BK980.out nd)
                replace BK981 := am (blk_drewN BK981.out nd)
                replace BK1026 := am (blk_drewN BK1026.out nd)
                replace BK1041 := am (blk_drewN BK1041.out nd)
                replace BK1071 := am (blk_drewN BK1071.out nd)
                replace HB := am (pw_below_drewN HB.out nd)
                generalize w224.drewN nd = w224 at BK980 BK981 BK1026 BK1041 BK1071 HB ⊢
                refine hK.out _ _ ⟨cl BK1026 0, cl BK1026 1, cl BK1026 2, cl BK1026 3, cl BK1026 4, cl BK1026 5, cl BK1026 6, cl BK1026 7, cl BK981 0, cl BK981 1, cl BK1041 0, cl BK1041 1, cl BK1041 2, cl BK1041 3, cl BK1041 4, cl BK1041 5, cl BK1041 6, cl BK1041 7, cl BK980 0, cl BK980 1, cl BK980 2, cl BK980 3, cl BK980 4, cl BK980 5, cl BK980 6, cl BK980 7, cl BK1071 0, cl BK1071 1, cl BK1071 2, cl BK1071 3, cl BK1071 4, cl BK1071 5, cl BK1071 6, cl BK1071 7⟩ (fun hHeld => ?_)
                clear hK K
                refine nw_ 109 ?_
                refine pw_ 5 (some 110) (bm 37 63) HT_ ?_
                refine pw_ 6 (some 111) (bm 37 127) HT_ ?_
                refine pw_ 7 (some 112) (bm 37 255) HT_ ?_
                refine pw_ 9 (some 114) (bm 37 767) HT_ ?_
                refine tw_ 8 (some 113) (bm 37 1023) HT_ HW_ hHeld ?_
                refine tw_ 10 (some 115) (bm 37 2047) HT_ HW_ hHeld ?_
                refine pw_ 11 (some 116) (bm 37 4095) HT_ ?_
                refine ow_ 12 (some 117) (bm 37 8191) HT_ (fun K hK => ?_)
                refine gw_ Try.func52 #[.int .i64 (wrap64 (t971 + 3))] ?_
                with_reducible refine (impl_Addr.calls (wrap64 (t971 + 3)) t1073 _ A148.out).mono ?_
                rintro e w' ⟨rfl, ⟨nd, rfl⟩⟩
                refine ⟨_, rfl, ?_⟩
                replace BK980 := am (blk_drewN BK980.out nd)
                replace BK981 := am (blk_drewN BK981.out nd)
                replace BK1026 := am (blk_drewN BK1026.out nd)
                replace BK1041 := am (blk_drewN BK1041.out nd)
                replace BK1071 := am (blk_drewN BK1071.out nd)
                replace HB := am (pw_below_drewN HB.out nd)
                generalize w224.drewN nd = w224 at BK980 BK981 BK1026 BK1041 BK1071 HB ⊢
                refine hK.out _ _ ⟨cl BK1026 0, cl BK1026 1, cl BK1026 2, cl BK1026 3, cl BK1026 4, cl BK1026 5, cl BK1026 6, cl BK1026 7, cl BK981 0, cl BK981 1, cl BK1041 0, cl BK1041 1, cl BK1041 2, cl BK1041 3, cl BK1041 4, cl BK1041 5, cl BK1041 6, cl BK1041 7, cl BK980 0, cl BK980 1, cl BK980 2, cl BK980 3, cl BK980 4, cl BK980 5, cl BK980 6, cl BK980 7, cl BK1071 0, cl BK1071 1, cl BK1071 2, cl BK1071 3, cl BK1071 4, cl BK1071 5, cl BK1071 6, cl BK1071 7⟩ (fun hHeld => ?_)
                clear hK K
                refine nw_ 117 ?_
                refine pw_ 13 (some 118) (bm 37 16383) HT_ ?_
                refine pw_ 14 (some 119) (bm 37 32767) HT_ ?_
                refine pw_ 15 (some 120) (bm 37 65535) HT_ ?_
                refine pw_ 16 (some 121) (bm 37 131071) HT_ ?_
                refine pw_ 18 (some 123) (bm 37 393215) HT_ ?_
                refine tw_ 17 (some 122) (bm 37 524287) HT_ HW_ hHeld ?_
                refine tw_ 19 (some 124) (bm 37 1048575) HT_ HW_ hHeld ?_
                refine pw_ 20 (some 125) (bm 37 2097151) HT_ ?_
                refine pw_ 21 (some 126) (bm 37 4194303) HT_ ?_
                refine pw_ 22 (some 127) (bm 37 8388607) HT_ ?_
                refine pw_ 23 (some 128) (bm 37 16777215) HT_ ?_
                refine pw_ 25 (some 130) (bm 37 50331647) HT_ ?_
                refine tw_ 24 (some 129) (bm 37 67108863) HT_ HW_ hHeld ?_
                refine tw_ 26 (some 131) (bm 37 134217727) HT_ HW_ hHeld ?_
                refine pw_ 27 (some 132) (bm 37 268435455) HT_ ?_
                refine pw_ 28 (some 133) (bm 37 536870911) HT_ ?_
                refine pw_ 29 (some 134) (bm 37 1073741823) HT_ ?_
                refine pw_ 30 (some 135) (bm 37 2147483647) HT_ ?_
                refine pw_ 32 (some 137) (bm 37 6442450943) HT_ ?_
                refine tw_ 31 (some 136) (bm 37 8589934591) HT_ HW_ hHeld ?_
                refine tw_ 33 (some 138) (bm 37 17179869183) HT_ HW_ hHeld ?_
                refine pw_ 34 (some 139) (bm 37 34359738367) HT_ ?_
                refine pw_ 35 (some 140) (bm 37 68719476735) HT_ ?_
                refine pw_ 36 (some 2) (bm 37 137438953471) HT_ ?_
                refine done_ (done_of HT_.out (by kernel_rfl)) ?_
                try go_wp2
                go_ret
                exact ⟨rt, bw HB.out⟩
           ·rw [if_neg c151] at H
            have c151b0 : (t1062 == t968) = false := beq_eq_false_iff_ne.mpr c151
            have c151b1 : (t1062 != t968) = true := bne_iff_ne.mpr c151
            exact absurd ((oj H).trans hrt) (by decide)
          ·rw [if_neg c150] at H
           have c150b0 : (t1034 == t970) = false := beq_eq_false_iff_ne.mpr c150
           have c150b1 : (t1034 != t970) = true := bne_iff_ne.mpr c150
           exact absurd ((oj H).trans hrt) (by decide)
         ·rw [if_neg c149] at H
          have c149b0 : (t1035 == t1073) = false := beq_eq_false_iff_ne.mpr c149
          have c149b1 : (t1035 != t1073) = true := bne_iff_ne.mpr c149
          exact absurd ((oj H).trans hrt) (by decide)
        ·rw [if_neg c147] at H
         have c147b0 : (t1020 == t1072) = false := beq_eq_false_iff_ne.mpr c147
         have c147b1 : (t1020 != t1072) = true := bne_iff_ne.mpr c147
         exact absurd ((oj H).trans hrt) (by decide)

end Go.Proofs.Ytmkccgbfgebfbaa.MFnCalled
