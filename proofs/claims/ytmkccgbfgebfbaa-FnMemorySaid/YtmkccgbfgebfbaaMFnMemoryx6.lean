/- Walks of functions that the law FnMemory reaches: each comes to just what its Lean function says. (Begun as the texts that print.sh wrote for this claim; some of them, and those that it does not write, are mine.) No condition. -/
import Derived.Test.YtmkccgbfgebfbaaMFnMemoryx5
namespace Go.Proofs.Ytmkccgbfgebfbaa.MFnMemory
open Go.RowKit Go.Proofs.YtmkccgbfgebfbaaW.PrintWords Go.Proofs.YtmkccgbfgebfbaaW.PrintLast Go.Proofs.YtmkccgbfgebfbaaW.PrintMore
attribute [local go_sem] max2_int min2_int max_two min_two max_three min_three max_four min_four   -- for this text's walks alone
set_option linter.unusedVariables false
set_option linter.unusedSimpArgs false

/-! ### laws_FnMemory: function 5 -/
mutual
def laws_FnMemory.j0 : Nat → Int → Int → Bool → List (List Int) → List Int → Int → List Int → Int → Option (Bool)
 | 0, _, _, _, _, _, _, _, _ => none
 | k + 1, x5, x6, x51, x495000, x496000, x496001, x501000, x501001 => if x51 = true then (some false) else ((impl_Region.f x5).bind fun bt509 => ((spec_MemOk.f k x495000 x496000 x496001).bind fun t511 => (if t511 = true then (if bt509.1 = 1 then ((impl_Peek.f k x495000 x501000 x501001 x5).bind fun t513 => ((impl_Byte.f x6).bind fun t514 => (if t513 = t514 then (if 0 ≤ bt509.2 then (if bt509.2 < (x501000.length : Int) then ((impl_Byte.f x6).bind fun t516 => (if (rd x501000 bt509.2) = t516 then (some (x501001 == x496001)) else (some false))) else (none)) else (none)) else (some false)))) else (if bt509.1 = 5 then (laws_FnMemory.j1 k x5 x6 bt509.2 (bt509.1 == 5) x495000 x496000 x496001 x501000 x501001) else (laws_FnMemory.j1 k x5 x6 bt509.2 (bt509.1 == 6) x495000 x496000 x496001 x501000 x501001))) else (if x501001 = x496001 then ((impl_Peek.f k x495000 x496000 x496001 x5).bind fun t512 => (some (t512 == 0))) else (some false)))))
def laws_FnMemory.j1 : Nat → Int → Int → Int → Bool → List (List Int) → List Int → Int → List Int → Int → Option (Bool)
 | 0, _, _, _, _, _, _, _, _, _ => none
 | k + 1, x5, x6, x10, x100, x495000, x496000, x496001, x501000, x501001 => if x100 = true then ((laws_sameInts.f k x501000 x496000).bind fun t517 => (if t517 = true then ((impl_Peek.f k x495000 x501000 x501001 (wrap64 (32768 + x10))).bind fun t518 => ((impl_Byte.f x6).bind fun t519 => ((impl_BankOf.f k x495000 t519).bind fun t520 => (if 0 ≤ x10 then (if x10 < (t520.length : Int) then (some (t518 == (rd t520 x10))) else (none)) else (none))))) else (some false))) else (if x501001 = x496001 then ((laws_sameInts.f k x501000 x496000).bind fun t524 => (if t524 = true then ((impl_Peek.f k x495000 x501000 x501001 x5).bind fun t525 => (some (t525 == 0))) else (some false))) else (some false))
end
def laws_FnMemory.f (k : Nat) (l0 : List Int) : Option (Bool) := (laws_big.f l0).bind fun t484 => (if t484 = true then (some true) else ((spec_DrawPoke.f k l0).bind fun bt485 => ((impl_Poke.f k bt485.1 bt485.2.1 bt485.2.2.1 bt485.2.2.2.1 bt485.2.2.2.2).bind fun bt496 => ((spec_Poke.f k bt485.1 bt485.2.1 bt485.2.2.1 bt485.2.2.2.1 bt485.2.2.2.2).bind fun bt501 => (if bt496.2 = bt501.2 then ((laws_sameInts.f k bt496.1 bt501.1).bind fun t506 => (if t506 = true then ((impl_MemOk.f k bt485.1 bt485.2.1 bt485.2.2.1).bind fun t507 => ((spec_MemOk.f k bt485.1 bt485.2.1 bt485.2.2.1).bind fun t508 => (laws_FnMemory.j0 k bt485.2.2.2.1 bt485.2.2.2.2 (t507 != t508) bt485.1 bt485.2.1 bt485.2.2.1 bt496.1 bt496.2))) else (laws_FnMemory.j0 k bt485.2.2.2.1 bt485.2.2.2.2 true bt485.1 bt485.2.1 bt485.2.2.1 bt496.1 bt496.2))) else (laws_FnMemory.j0 k bt485.2.2.2.1 bt485.2.2.2.2 true bt485.1 bt485.2.1 bt485.2.2.1 bt496.1 bt496.2))))))
theorem laws_FnMemory.mono_l : ∀ k, (∀ y0 y1 y2 y3 y4 y5 y6 y7, LeO (laws_FnMemory.j0 k y0 y1 y2 y3 y4 y5 y6 y7) (laws_FnMemory.j0 (k + 1) y0 y1 y2 y3 y4 y5 y6 y7)) ∧ (∀ y0 y1 y2 y3 y4 y5 y6 y7 y8, LeO (laws_FnMemory.j1 k y0 y1 y2 y3 y4 y5 y6 y7 y8) (laws_FnMemory.j1 (k + 1) y0 y1 y2 y3 y4 y5 y6 y7 y8))
 | 0 => ⟨fun _ _ _ _ _ _ _ _ r h => by simp [laws_FnMemory.j0] at h, fun _ _ _ _ _ _ _ _ _ r h => by simp [laws_FnMemory.j1] at h⟩
 | k + 1 => by
  obtain ⟨ih0, ih1⟩ := laws_FnMemory.mono_l k
  refine ⟨?_, ?_⟩
  ·intro y0 y1 y2 y3 y4 y5 y6 y7
   unfold laws_FnMemory.j0
   repeat' first
   | (with_reducible exact ih0 _ _ _ _ _ _ _ _)
   | (with_reducible exact ih1 _ _ _ _ _ _ _ _ _)
   | (with_reducible exact impl_BankOf.mono _ _ _)
   | (with_reducible exact impl_MemOk.mono _ _ _ _)
   | (with_reducible exact impl_Peek.mono _ _ _ _ _)
   | (with_reducible exact impl_Poke.mono _ _ _ _ _ _)
   | (with_reducible exact laws_sameInts.mono _ _ _)
   | (with_reducible exact spec_DrawPoke.mono _ _)
   | (with_reducible exact spec_MemOk.mono _ _ _ _)
   | (with_reducible exact spec_Poke.mono _ _ _ _ _ _)
   | (with_reducible exact LeO.refl _)
   | (with_reducible exact LeO.none _)
   | (with_reducible refine LeO.ite ?_ ?_)
   | (with_reducible refine LeO.bind ?_ (fun _ => ?_))
   | exact ih0 _ _ _ _ _ _ _ _
   | exact ih1 _ _ _ _ _ _ _ _ _
   | exact impl_BankOf.mono _ _ _
   | exact impl_MemOk.mono _ _ _ _
   | exact impl_Peek.mono _ _ _ _ _
   | exact impl_Poke.mono _ _ _ _ _ _
   | exact laws_sameInts.mono _ _ _
   | exact spec_DrawPoke.mono _ _
   | exact spec_MemOk.mono _ _ _ _
   | exact spec_Poke.mono _ _ _ _ _ _
   | exact LeO.none _
   | refine LeO.ite ?_ ?_
   | refine LeO.bind ?_ (fun _ => ?_)
  ·intro y0 y1 y2 y3 y4 y5 y6 y7 y8
   unfold laws_FnMemory.j1
   repeat' first
   | (with_reducible exact ih0 _ _ _ _ _ _ _ _)
   | (with_reducible exact ih1 _ _ _ _ _ _ _ _ _)
   | (with_reducible exact impl_BankOf.mono _ _ _)
   | (with_reducible exact impl_MemOk.mono _ _ _ _)
   | (with_reducible exact impl_Peek.mono _ _ _ _ _)
   | (with_reducible exact impl_Poke.mono _ _ _ _ _ _)
   | (with_reducible exact laws_sameInts.mono _ _ _)
   | (with_reducible exact spec_DrawPoke.mono _ _)
   | (with_reducible exact spec_MemOk.mono _ _ _ _)
   | (with_reducible exact spec_Poke.mono _ _ _ _ _ _)
   | (with_reducible exact LeO.refl _)
   | (with_reducible exact LeO.none _)
   | (with_reducible refine LeO.ite ?_ ?_)
   | (with_reducible refine LeO.bind ?_ (fun _ => ?_))
   | exact ih0 _ _ _ _ _ _ _ _
   | exact ih1 _ _ _ _ _ _ _ _ _
   | exact impl_BankOf.mono _ _ _
   | exact impl_MemOk.mono _ _ _ _
   | exact impl_Peek.mono _ _ _ _ _
   | exact impl_Poke.mono _ _ _ _ _ _
   | exact laws_sameInts.mono _ _ _
   | exact spec_DrawPoke.mono _ _
   | exact spec_MemOk.mono _ _ _ _
   | exact spec_Poke.mono _ _ _ _ _ _
   | exact LeO.none _
   | refine LeO.ite ?_ ?_
   | refine LeO.bind ?_ (fun _ => ?_)
def laws_FnMemory.T6 : Bool × List (List Nat × List Nat) := (true, [([], []), ([0], [0]), ([], []), ([2], [2]), ([1, 3], [1, 3]), ([4], [4]), ([5], [5]), ([6, 5], [5, 6]), ([5], [5]), ([8, 5], [5, 8]), ([7, 9, 5, 5], [5, 7, 9]), ([10, 5], [5, 10]), ([5, 11], [5, 11]), ([12, 10], [12]), ([13], [13]), ([13], [13]), ([14, 15, 13, 13], [13, 14, 15]), ([13], [13]), ([13], [13]), ([17, 18, 16, 13], [13, 17, 18]), ([16, 19, 13], [13, 16, 19]), ([13, 20], [13, 20])])
def laws_FnMemory.B6 : List Nat := [0, 1, 0, 4, 15, 31, 63, 127, 63, 319, 1023, 2047, 4095, 8191, 16383, 16383, 65535, 16383, 16383, 524287, 1048575, 2097151]
theorem laws_FnMemory.tab6 : rtab .any (opsOf Try.f5 6) = laws_FnMemory.T6 := by kernel_rfl
theorem laws_FnMemory.bits6 : waitsOk laws_FnMemory.T6.2 laws_FnMemory.B6 = true := by kernel_rfl
def laws_FnMemory.T13 : Bool × List (List Nat × List Nat) := (true, [([], []), ([], []), ([], []), ([0, 1, 2], [0, 1, 2]), ([], []), ([4, 3], [4]), ([3, 5], [3, 5]), ([6, 5], [6]), ([7], [7]), ([8, 7], [7, 8]), ([7], [7]), ([9, 10, 7], [7, 9, 10]), ([11, 7], [7, 11]), ([7], [7]), ([13, 7, 7], [7, 13]), ([12, 14, 7], [7, 12, 14]), ([7, 15], [7, 15]), ([16, 14], [16]), ([17], [17]), ([18, 17], [17, 18]), ([17], [17]), ([20, 17], [17, 20]), ([19, 21, 17], [17, 19, 21]), ([17, 22], [17, 22]), ([23, 17, 0, 1, 2, 3, 4, 5, 6, 7, 8, 9, 10, 11, 12, 13, 14, 15, 16, 17, 18, 19, 20, 21, 22, 23], [23])])
def laws_FnMemory.B13 : List Nat := [0, 0, 0, 7, 0, 31, 63, 127, 255, 511, 255, 2047, 4095, 255, 8447, 32767, 65535, 131071, 262143, 524287, 262143, 1310719, 4194303, 8388607, 16777215]
theorem laws_FnMemory.tab13 : rtab .any (opsOf Try.f5 13) = laws_FnMemory.T13 := by kernel_rfl
theorem laws_FnMemory.bits13 : waitsOk laws_FnMemory.T13.2 laws_FnMemory.B13 = true := by kernel_rfl
def laws_FnMemory.T16 : Bool × List (List Nat × List Nat) := (true, [([], []), ([0], [0]), ([], []), ([2], [2]), ([1, 3], [1, 3]), ([4, 4], [4]), ([5], [5]), ([5], [5]), ([5], [5]), ([8, 5], [5, 8]), ([6, 7, 9, 5, 5], [5, 6, 7, 9]), ([5], [5]), ([5], [5]), ([12, 10, 5], [5, 12]), ([11, 13, 13, 5], [5, 11, 13]), ([5], [5]), ([14, 15, 5], [5, 14, 15]), ([16, 5], [5, 16]), ([10, 17, 5], [5, 10, 17]), ([5, 18], [5, 18]), ([19, 14, 0, 1, 2, 3, 4, 5, 6, 7, 8, 9, 10, 11, 12, 13, 14, 15, 16, 17, 18, 19], [19])])
def laws_FnMemory.B16 : List Nat := [0, 1, 0, 4, 15, 31, 63, 63, 63, 319, 1023, 63, 63, 6143, 16383, 63, 65535, 131071, 262143, 524287, 1048575]
theorem laws_FnMemory.tab16 : rtab .any (opsOf Try.f5 16) = laws_FnMemory.T16 := by kernel_rfl
theorem laws_FnMemory.bits16 : waitsOk laws_FnMemory.T16.2 laws_FnMemory.B16 = true := by kernel_rfl
set_option maxHeartbeats 8000000 in
set_option maxRecDepth 100000 in
theorem laws_FnMemory.calls (k : Nat) (A0 : Option Addr) (c0 : Nat) (l0 : List Int) (r : Bool) (w : World) (hr0 : Kd.C (Kd.int .u8) w A0 l0.length l0) (hc0 : l0.length ≤ c0) (h : laws_FnMemory.f k l0 = some r) (hrt : r = true) :
  Calls Try.prog 5 #[.slice A0 l0.length c0] w fun e w' => e = .returned (.bool r) ∧ Below w.heap.size w w' := by
 have hu29 := Try.underlying29
 have hu32 := Try.underlying32
 have HR0 := Aside0.mk hr0
 have HC0 := Aside0.mk hc0
 clear hr0 hc0
 have HB := Aside0.mk (Below.refl w.heap.size w)
 have H : ((laws_big.f l0).bind fun t484 => (if t484 = true then (some true) else ((spec_DrawPoke.f k l0).bind fun bt485 => ((impl_Poke.f k bt485.1 bt485.2.1 bt485.2.2.1 bt485.2.2.2.1 bt485.2.2.2.2).bind fun bt496 => ((spec_Poke.f k bt485.1 bt485.2.1 bt485.2.2.1 bt485.2.2.2.1 bt485.2.2.2.2).bind fun bt501 => (if bt496.2 = bt501.2 then ((laws_sameInts.f k bt496.1 bt501.1).bind fun t506 => (if t506 = true then ((impl_MemOk.f k bt485.1 bt485.2.1 bt485.2.2.1).bind fun t507 => ((spec_MemOk.f k bt485.1 bt485.2.1 bt485.2.2.1).bind fun t508 => (laws_FnMemory.j0 k bt485.2.2.2.1 bt485.2.2.2.2 (t507 != t508) bt485.1 bt485.2.1 bt485.2.2.1 bt496.1 bt496.2))) else (laws_FnMemory.j0 k bt485.2.2.2.1 bt485.2.2.2.2 true bt485.1 bt485.2.1 bt485.2.2.1 bt496.1 bt496.2))) else (laws_FnMemory.j0 k bt485.2.2.2.1 bt485.2.2.2.2 true bt485.1 bt485.2.1 bt485.2.2.1 bt496.1 bt496.2))))))) = some r := h
 clear h
 replace H := Option.bind_eq_some_iff.mp H
 obtain ⟨t484, A20, H⟩ := H
 replace H : (if t484 = true then (some true) else ((spec_DrawPoke.f k l0).bind fun bt485 => ((impl_Poke.f k bt485.1 bt485.2.1 bt485.2.2.1 bt485.2.2.2.1 bt485.2.2.2.2).bind fun bt496 => ((spec_Poke.f k bt485.1 bt485.2.1 bt485.2.2.1 bt485.2.2.2.1 bt485.2.2.2.2).bind fun bt501 => (if bt496.2 = bt501.2 then ((laws_sameInts.f k bt496.1 bt501.1).bind fun t506 => (if t506 = true then ((impl_MemOk.f k bt485.1 bt485.2.1 bt485.2.2.1).bind fun t507 => ((spec_MemOk.f k bt485.1 bt485.2.1 bt485.2.2.1).bind fun t508 => (laws_FnMemory.j0 k bt485.2.2.2.1 bt485.2.2.2.2 (t507 != t508) bt485.1 bt485.2.1 bt485.2.2.1 bt496.1 bt496.2))) else (laws_FnMemory.j0 k bt485.2.2.2.1 bt485.2.2.2.2 true bt485.1 bt485.2.1 bt485.2.2.1 bt496.1 bt496.2))) else (laws_FnMemory.j0 k bt485.2.2.2.1 bt485.2.2.2.2 true bt485.1 bt485.2.1 bt485.2.2.1 bt496.1 bt496.2)))))) = some r := H
 have A2 := Aside0.mk A20
 clear A20
 by_cases c3 : t484 = true
 ·subst c3
  have H1 : (some true) = some r := by rw [if_pos rfl] at H; exact H
  clear H
  have H := H1
  clear H1
  obtain rfl := Option.some.inj H
  go_enter Try.func5, Try.ntmps5
  go_wp2_with (first | ((with_reducible refine gate_callee (f := 9) rfl ?_); refine goesM_ (some 12) rfl rfl Try.func9 #[.slice A0 l0.length c0] ?_; (with_reducible refine (laws_big.calls _ _ l0 true _ ?side1 ?side2 A2.out).mono ?_); (case side1 => exact kc HR0.out); (case side2 => exact HC0.out); rintro e w' ⟨rfl, ⟨nd, rfl⟩⟩; refine ⟨_, rfl, ?_⟩))
  go_ret
  exact ⟨rt, bw HB.out⟩
 ·replace c3 := Bool.eq_false_iff.mpr c3
  subst c3
  have H1 : ((spec_DrawPoke.f k l0).bind fun bt485 => ((impl_Poke.f k bt485.1 bt485.2.1 bt485.2.2.1 bt485.2.2.2.1 bt485.2.2.2.2).bind fun bt496 => ((spec_Poke.f k bt485.1 bt485.2.1 bt485.2.2.1 bt485.2.2.2.1 bt485.2.2.2.2).bind fun bt501 => (if bt496.2 = bt501.2 then ((laws_sameInts.f k bt496.1 bt501.1).bind fun t506 => (if t506 = true then ((impl_MemOk.f k bt485.1 bt485.2.1 bt485.2.2.1).bind fun t507 => ((spec_MemOk.f k bt485.1 bt485.2.1 bt485.2.2.1).bind fun t508 => (laws_FnMemory.j0 k bt485.2.2.2.1 bt485.2.2.2.2 (t507 != t508) bt485.1 bt485.2.1 bt485.2.2.1 bt496.1 bt496.2))) else (laws_FnMemory.j0 k bt485.2.2.2.1 bt485.2.2.2.2 true bt485.1 bt485.2.1 bt485.2.2.1 bt496.1 bt496.2))) else (laws_FnMemory.j0 k bt485.2.2.2.1 bt485.2.2.2.2 true bt485.1 bt485.2.1 bt485.2.2.1 bt496.1 bt496.2))))) = some r := by rw [if_neg (show ¬ (false = true) by decide)] at H; exact H
  clear H
  have H := H1
  clear H1
  replace H := Option.bind_eq_some_iff.mp H
  obtain ⟨⟨t485, t488, t491, t492, t493⟩, A40, H⟩ := H
  replace H : ((impl_Poke.f k t485 t488 t491 t492 t493).bind fun bt496 => ((spec_Poke.f k t485 t488 t491 t492 t493).bind fun bt501 => (if bt496.2 = bt501.2 then ((laws_sameInts.f k bt496.1 bt501.1).bind fun t506 => (if t506 = true then ((impl_MemOk.f k t485 t488 t491).bind fun t507 => ((spec_MemOk.f k t485 t488 t491).bind fun t508 => (laws_FnMemory.j0 k t492 t493 (t507 != t508) t485 t488 t491 bt496.1 bt496.2))) else (laws_FnMemory.j0 k t492 t493 true t485 t488 t491 bt496.1 bt496.2))) else (laws_FnMemory.j0 k t492 t493 true t485 t488 t491 bt496.1 bt496.2)))) = some r := H
  have A4 := Aside0.mk A40
  clear A40
  replace H := Option.bind_eq_some_iff.mp H
  obtain ⟨⟨t496, t499⟩, A50, H⟩ := H
  replace H : ((spec_Poke.f k t485 t488 t491 t492 t493).bind fun bt501 => (if t499 = bt501.2 then ((laws_sameInts.f k t496 bt501.1).bind fun t506 => (if t506 = true then ((impl_MemOk.f k t485 t488 t491).bind fun t507 => ((spec_MemOk.f k t485 t488 t491).bind fun t508 => (laws_FnMemory.j0 k t492 t493 (t507 != t508) t485 t488 t491 t496 t499))) else (laws_FnMemory.j0 k t492 t493 true t485 t488 t491 t496 t499))) else (laws_FnMemory.j0 k t492 t493 true t485 t488 t491 t496 t499))) = some r := H
  have A5 := Aside0.mk A50
  clear A50
  replace H := Option.bind_eq_some_iff.mp H
  obtain ⟨⟨t501, t504⟩, A60, H⟩ := H
  replace H : (if t499 = t504 then ((laws_sameInts.f k t496 t501).bind fun t506 => (if t506 = true then ((impl_MemOk.f k t485 t488 t491).bind fun t507 => ((spec_MemOk.f k t485 t488 t491).bind fun t508 => (laws_FnMemory.j0 k t492 t493 (t507 != t508) t485 t488 t491 t496 t499))) else (laws_FnMemory.j0 k t492 t493 true t485 t488 t491 t496 t499))) else (laws_FnMemory.j0 k t492 t493 true t485 t488 t491 t496 t499)) = some r := H
  have A6 := Aside0.mk A60
  clear A60
  have HC7 := Aside0.mk H
  clear H
  go_enter Try.func5, Try.ntmps5
  go_upto_region 6 with (first | ((with_reducible refine gate_callee (f := 9) rfl ?_); refine goesM_ (some 12) rfl rfl Try.func9 #[.slice A0 l0.length c0] ?_; (with_reducible refine (laws_big.calls _ _ l0 false _ ?side1 ?side2 A2.out).mono ?_); (case side1 => exact kc HR0.out); (case side2 => exact HC0.out); rintro e w' ⟨rfl, ⟨nd, rfl⟩⟩; refine ⟨_, rfl, ?_⟩) | ((with_reducible refine gate_callee (f := 29) rfl ?_); refine goesM_ (some 15) rfl rfl Try.func29 #[.slice A0 l0.length c0] ?_; (with_reducible refine (spec_DrawPoke.calls k _ _ l0 t485 t488 t491 t492 t493 _ ?side1 ?side2 A4.out).mono ?_); (case side1 => exact kc HR0.out); (case side2 => exact HC0.out); rintro e w8 ⟨v486, v489, rfl, ho0, ho1, hb⟩; refine ⟨_, rfl, ?_⟩; have n0_ := Aside0.mk (Kd.S_lower ho0 (below_size (bw HB.out))); have n1_ := Aside0.mk (Kd.Q_lower ho1 (below_size (bw HB.out))); have n2_ := Aside0.mk (below_step (bw HB.out) hb); clear HB; have HO487 := n0_; have HO490 := n1_; have HB := n2_; clear n0_ n1_ n2_; (try clear hb); (try clear hb2); (try clear hk); (try clear hi); (try clear ho0); (try clear ho1)) | ((with_reducible refine gate_dst (N := 3) rfl ?_); refine bx (N := 3) (cs := #[.slice none 0 0]) (t := 29) ?_; intro gb494 hg w9 hbox hb; have n0_ := Aside0.mk (Kd.S_below (ks HO487.out) hb); have n1_ := Aside0.mk (Kd.Q_below (kq HO490.out) hb); have n2_ := Aside0.mk (below_step (bw HB.out) hb); have n3_ := Aside0.mk (hbox); have n4_ := Aside0.mk ((gs hg (bw HB.out))); have n5_ := Aside0.mk ((gs hg (bw HB.out))); clear HO487; clear HO490; clear HB; have HO487 := n0_; have HO490 := n1_; have HB := n2_; have BK494 := n3_; have GW494 := n4_; have GE494 := n5_; clear n0_ n1_ n2_ n3_ n4_ n5_; clear hb hbox hg) | ((with_reducible refine gate_dst (N := 4) rfl ?_); refine bx (N := 4) (cs := #[.slice none 0 0, .int .i64 0]) (t := 32) ?_; intro gb495 hg w10 hbox hb; have n0_ := Aside0.mk (Kd.S_below (ks HO487.out) hb); have n1_ := Aside0.mk (Kd.Q_below (kq HO490.out) hb); have n2_ := Aside0.mk (blk_below (g := gb494) (o := .cells #[.slice none 0 0] 29 (0, 0)) (kb BK494.out) hb); have n3_ := Aside0.mk (below_step (bw HB.out) hb); have n4_ := Aside0.mk (hbox); have n5_ := Aside0.mk ((gs hg (bw HB.out))); have n6_ := Aside0.mk ((gs hg (bw HB.out))); have n7_ := Aside0.mk ((ga hg BK494.out)); have n8_ := Aside0.mk ((gc hg BK494.out)); clear HO487; clear HO490; clear BK494; clear HB; have HO487 := n0_; have HO490 := n1_; have BK494 := n2_; have HB := n3_; have BK495 := n4_; have GW495 := n5_; have GE495 := n6_; have NB494_495 := n7_; have NB495_494 := n8_; clear n0_ n1_ n2_ n3_ n4_ n5_ n6_ n7_ n8_; clear hb hbox hg; obtain ⟨Ao11, co11, eo11⟩ := Kd.S_slice HO487.out; subst eo11; have hnb12 := NB494_495.out; have hnc12 := NB495_494.out; have hcz13_0 : w10.cell? ⟨gb494, 0, none⟩ = some (.slice none 0 0) := (blk_cell BK494.out 0).trans rfl; have hfz13_0 := blk_frozen BK494.out 0; obtain ⟨Ao14, co14, eo14, _⟩ := Kd.Q_slice HO490.out; subst eo14; have hcz15_0 : w10.cell? ⟨gb495, 0, none⟩ = some (.slice none 0 0) := (blk_cell BK495.out 0).trans rfl; have hcz15_1 : w10.cell? ⟨gb495, 1, none⟩ = some (.int .i64 0) := (blk_cell BK495.out 1).trans rfl; have hfz15_0 := blk_frozen BK495.out 0; have hfz15_1 := blk_frozen BK495.out 1) | ((with_reducible refine gate_callee (f := 30) rfl ?_); refine goesM_ (some 24) rfl rfl Try.func30 #[.agg #[.slice Ao11 t485.length co11], .agg #[.slice Ao14 t488.length co14, .int .i64 t491], .int .i64 t492, .int .i64 t493] ?_; (with_reducible refine (impl_Poke.calls k _ _ t485 _ _ t488 t491 t492 t493 t496 t499 _ ?side1 ?side2 ?side3 ?side4 A5.out).mono ?_); (case side1 => refine (Kd.S_reads' (d := cutK 3 (Kd.int .i64)) (e := 30) (base := w.heap.size) (ok := fun k_ => some k_ ≠ (.slice Ao14 t488.length co14 : Value).ownBlock) (n := t485.length) (c := co11) ?_).2.2; exact (ks ((Kd.S_mono (Kd.S_mono (Kd.S_far (p := ⟨gb495, 1, none⟩) (Kd.S_far (p := ⟨gb495, 0, none⟩) (Kd.S_far (p := ⟨gb494, 0, none⟩) (Kd.S_types (Kd.S_types HO487.out BK494.out (by decide)) BK495.out (by decide)) (fun _ hk => hk.1.2) (.slice Ao11 t485.length co11)) (fun _ hk => hk.2) (.slice Ao14 t488.length co14)) (fun _ hk => hk.2) (.int .i64 t491)) (fun _ h_ => h_.1)) (fun _ h_ => h_.1))))); (case side2 => exact (Kd.S_reads' HO487.out).2.1); (case side3 => refine (Kd.Q_reads' (e := 3) (base := w.heap.size) (ok := fun k_ => True) (n := t488.length) (c := co14) ?_).2.2; exact (kq ((Kd.Q_mono (Kd.Q_mono (Kd.Q_far (p := ⟨gb495, 1, none⟩) (Kd.Q_far (p := ⟨gb495, 0, none⟩) (Kd.Q_far (p := ⟨gb494, 0, none⟩) (Kd.Q_types (Kd.Q_types HO490.out BK494.out (by decide)) BK495.out (by decide)) (fun _ hk => hk.1.2) (.slice Ao11 t485.length co11)) (fun _ hk => hk.2) (.slice Ao14 t488.length co14)) (fun _ hk => hk.2) (.int .i64 t491)) (fun _ h_ => h_.1)) (fun _ h_ => h_.1))))); (case side4 => exact (Kd.Q_reads' HO490.out).2.1); rintro e w16 ⟨v497, rfl, ho0, hb⟩; refine ⟨_, rfl, ?_⟩; have n0_ := Aside0.mk (Kd.S_elder' (ks ((Kd.S_mono (Kd.S_mono (Kd.S_far (p := ⟨gb495, 1, none⟩) (Kd.S_far (p := ⟨gb495, 0, none⟩) (Kd.S_far (p := ⟨gb494, 0, none⟩) (Kd.S_types (Kd.S_types HO487.out BK494.out (by decide)) BK495.out (by decide)) (fun _ hk => hk.1.2) (.slice Ao11 t485.length co11)) (fun _ hk => hk.2) (.slice Ao14 t488.length co14)) (fun _ hk => hk.2) (.int .i64 t491)) (fun _ h_ => h_.1)) (fun _ h_ => h_.1)))) (Kd.R_base ho0) hb); have n1_ := Aside0.mk (Kd.Q_elder' (kq ((Kd.Q_mono (Kd.Q_mono (Kd.Q_far (p := ⟨gb495, 1, none⟩) (Kd.Q_far (p := ⟨gb495, 0, none⟩) (Kd.Q_far (p := ⟨gb494, 0, none⟩) (Kd.Q_types (Kd.Q_types HO490.out BK494.out (by decide)) BK495.out (by decide)) (fun _ hk => hk.1.2) (.slice Ao11 t485.length co11)) (fun _ hk => hk.2) (.slice Ao14 t488.length co14)) (fun _ hk => hk.2) (.int .i64 t491)) (fun _ h_ => h_.1)) (fun _ h_ => h_.1)))) (Kd.R_base ho0) hb); have n2_ := Aside0.mk (Kd.R_lower (Kd.R_new' ho0 (Kd.Q_lt (kq ((Kd.Q_mono (Kd.Q_mono (Kd.Q_far (p := ⟨gb495, 1, none⟩) (Kd.Q_far (p := ⟨gb495, 0, none⟩) (Kd.Q_far (p := ⟨gb494, 0, none⟩) (Kd.Q_types (Kd.Q_types HO490.out BK494.out (by decide)) BK495.out (by decide)) (fun _ hk => hk.1.2) (.slice Ao11 t485.length co11)) (fun _ hk => hk.2) (.slice Ao14 t488.length co14)) (fun _ hk => hk.2) (.int .i64 t491)) (fun _ h_ => h_.1)) (fun _ h_ => h_.1)))))) (below_size (bw HB.out))); have n3_ := Aside0.mk (blk_below (g := gb494) (o := .cells #[.slice Ao11 t485.length co11] 29 (0, 0)) (by (with_reducible repeat (first | refine blk_drewN ?_ _ | refine blk_drew ?_ | refine blk_alloc ?_ _)); refine blk_far ?_ NB494_495.out _; (with_reducible repeat (first | refine blk_drewN ?_ _ | refine blk_drew ?_ | refine blk_alloc ?_ _)); refine blk_far ?_ NB494_495.out _; (with_reducible repeat (first | refine blk_drewN ?_ _ | refine blk_drew ?_ | refine blk_alloc ?_ _)); refine blk_put (cs := #[.slice none 0 0]) ?_ 0 _ rfl; (with_reducible repeat (first | refine blk_drewN ?_ _ | refine blk_drew ?_ | refine blk_alloc ?_ _)); exact BK494.out) hb); have n4_ := Aside0.mk (blk_below (g := gb495) (o := .cells #[.slice Ao14 t488.length co14, .int .i64 t491] 32 (0, 0)) (by (with_reducible repeat (first | refine blk_drewN ?_ _ | refine blk_drew ?_ | refine blk_alloc ?_ _)); refine blk_put (cs := #[.slice Ao14 t488.length co14, .int .i64 0]) ?_ 1 _ rfl; (with_reducible repeat (first | refine blk_drewN ?_ _ | refine blk_drew ?_ | refine blk_alloc ?_ _)); refine blk_put (cs := #[.slice none 0 0, .int .i64 0]) ?_ 0 _ rfl; (with_reducible repeat (first | refine blk_drewN ?_ _ | refine blk_drew ?_ | refine blk_alloc ?_ _)); refine blk_far ?_ NB495_494.out _; (with_reducible repeat (first | refine blk_drewN ?_ _ | refine blk_drew ?_ | refine blk_alloc ?_ _)); exact BK495.out) hb); have n5_ := Aside0.mk (below_step (bw HB.out) hb); clear HO487; clear HO490; clear BK494; clear BK495; clear HB; have HO487 := n0_; have HO490 := n1_; have HO498 := n2_; have BK494 := n3_; have BK495 := n4_; have HB := n5_; clear n0_ n1_ n2_ n3_ n4_ n5_; (try clear hb); (try clear hb2); (try clear hk); (try clear hi); (try clear ho0)) | ((with_reducible refine gate_dst (N := 7) rfl ?_); refine bx (N := 7) (cs := #[.slice none 0 0, .int .i64 0]) (t := 32) ?_; intro gb500 hg w17 hbox hb; have n0_ := Aside0.mk (Kd.S_below (ks HO487.out) hb); have n1_ := Aside0.mk (Kd.Q_below (kq HO490.out) hb); have n2_ := Aside0.mk (Kd.R_below (kr HO498.out) hb); have n3_ := Aside0.mk (blk_below (g := gb494) (o := .cells #[.slice Ao11 t485.length co11] 29 (0, 0)) (kb BK494.out) hb); have n4_ := Aside0.mk (blk_below (g := gb495) (o := .cells #[.slice Ao14 t488.length co14, .int .i64 t491] 32 (0, 0)) (kb BK495.out) hb); have n5_ := Aside0.mk (below_step (bw HB.out) hb); have n6_ := Aside0.mk (hbox); have n7_ := Aside0.mk ((gs hg (bw HB.out))); have n8_ := Aside0.mk ((gs hg (bw HB.out))); have n9_ := Aside0.mk ((ga hg BK494.out)); have n10_ := Aside0.mk ((gc hg BK494.out)); have n11_ := Aside0.mk ((ga hg BK495.out)); have n12_ := Aside0.mk ((gc hg BK495.out)); clear HO487; clear HO490; clear HO498; clear BK494; clear BK495; clear HB; have HO487 := n0_; have HO490 := n1_; have HO498 := n2_; have BK494 := n3_; have BK495 := n4_; have HB := n5_; have BK500 := n6_; have GW500 := n7_; have GE500 := n8_; have NB494_500 := n9_; have NB500_494 := n10_; have NB495_500 := n11_; have NB500_495 := n12_; clear n0_ n1_ n2_ n3_ n4_ n5_ n6_ n7_ n8_ n9_ n10_ n11_ n12_; clear hb hbox hg; obtain ⟨Ao18, co18, eo18⟩ := Kd.R_slice HO498.out; subst eo18; have hnb19 := NB500_494.out; have hnc19 := NB494_500.out; have hnb20 := NB500_495.out; have hnc20 := NB495_500.out; have hcz21_0 : w17.cell? ⟨gb500, 0, none⟩ = some (.slice none 0 0) := (blk_cell BK500.out 0).trans rfl; have hcz21_1 : w17.cell? ⟨gb500, 1, none⟩ = some (.int .i64 0) := (blk_cell BK500.out 1).trans rfl; have hfz21_0 := blk_frozen BK500.out 0; have hfz21_1 := blk_frozen BK500.out 1; have hcz22_0 : w17.cell? ⟨gb494, 0, none⟩ = some (.slice Ao11 t485.length co11) := (blk_cell BK494.out 0).trans rfl; have hfz22_0 := blk_frozen BK494.out 0; have hcz23_0 : w17.cell? ⟨gb495, 0, none⟩ = some (.slice Ao14 t488.length co14) := (blk_cell BK495.out 0).trans rfl; have hcz23_1 : w17.cell? ⟨gb495, 1, none⟩ = some (.int .i64 t491) := (blk_cell BK495.out 1).trans rfl; have hfz23_0 := blk_frozen BK495.out 0; have hfz23_1 := blk_frozen BK495.out 1) | ((with_reducible refine gate_callee (f := 31) rfl ?_); refine goesM_ (some 29) rfl rfl Try.func31 #[.agg #[.slice Ao11 t485.length co11], .agg #[.slice Ao14 t488.length co14, .int .i64 t491], .int .i64 t492, .int .i64 t493] ?_; (with_reducible refine (spec_Poke.calls k _ _ t485 _ _ t488 t491 t492 t493 t501 t504 _ ?side1 ?side2 ?side3 ?side4 A6.out).mono ?_); (case side1 => refine (Kd.S_reads' (d := cutK 3 (Kd.int .i64)) (e := 30) (base := w.heap.size) (ok := fun k_ => (some k_ ≠ (.slice Ao14 t488.length co14 : Value).ownBlock ∧ some k_ ≠ (.slice Ao18 t496.length co18 : Value).ownBlock)) (n := t485.length) (c := co11) ?_).2.2; exact (ks ((Kd.S_mono (Kd.S_far (p := ⟨gb500, 1, none⟩) (Kd.S_far (p := ⟨gb500, 0, none⟩) (Kd.S_types HO487.out BK500.out (by decide)) (fun _ hk => hk.2) (.slice Ao18 t496.length co18)) (fun _ hk => hk.2) (.int .i64 t499)) (fun _ h_ => h_.1))))); (case side2 => exact (Kd.S_reads' HO487.out).2.1); (case side3 => refine (Kd.Q_reads' (e := 3) (base := w.heap.size) (ok := fun k_ => (True ∧ some k_ ≠ (.slice Ao18 t496.length co18 : Value).ownBlock)) (n := t488.length) (c := co14) ?_).2.2; exact (kq ((Kd.Q_mono (Kd.Q_far (p := ⟨gb500, 1, none⟩) (Kd.Q_far (p := ⟨gb500, 0, none⟩) (Kd.Q_types HO490.out BK500.out (by decide)) (fun _ hk => hk.2) (.slice Ao18 t496.length co18)) (fun _ hk => hk.2) (.int .i64 t499)) (fun _ h_ => h_.1))))); (case side4 => exact (Kd.Q_reads' HO490.out).2.1); rintro e w24 ⟨v502, rfl, ho0, hb⟩; refine ⟨_, rfl, ?_⟩; have n0_ := Aside0.mk (Kd.S_elder' (ks ((Kd.S_mono (Kd.S_far (p := ⟨gb500, 1, none⟩) (Kd.S_far (p := ⟨gb500, 0, none⟩) (Kd.S_types HO487.out BK500.out (by decide)) (fun _ hk => hk.2) (.slice Ao18 t496.length co18)) (fun _ hk => hk.2) (.int .i64 t499)) (fun _ h_ => h_.1)))) (Kd.R_base ho0) hb); have n1_ := Aside0.mk (Kd.Q_elder' (kq ((Kd.Q_mono (Kd.Q_far (p := ⟨gb500, 1, none⟩) (Kd.Q_far (p := ⟨gb500, 0, none⟩) (Kd.Q_types HO490.out BK500.out (by decide)) (fun _ hk => hk.2) (.slice Ao18 t496.length co18)) (fun _ hk => hk.2) (.int .i64 t499)) (fun _ h_ => h_.1)))) (Kd.R_base ho0) hb); have n2_ := Aside0.mk (Kd.R_elder' (kr ((Kd.R_mono (Kd.R_far (p := ⟨gb500, 1, none⟩) (Kd.R_far (p := ⟨gb500, 0, none⟩) (Kd.R_types HO498.out BK500.out (by decide)) (fun _ hk => hk.2) (.slice Ao18 t496.length co18)) (fun _ hk => hk.2) (.int .i64 t499)) (fun _ h_ => h_.1)))) (Kd.R_base ho0) hb); have n3_ := Aside0.mk (Kd.R_lower (Kd.R_new' (Kd.R_new' ho0 (Kd.Q_lt (kq ((Kd.Q_mono (Kd.Q_far (p := ⟨gb500, 1, none⟩) (Kd.Q_far (p := ⟨gb500, 0, none⟩) (Kd.Q_types HO490.out BK500.out (by decide)) (fun _ hk => hk.2) (.slice Ao18 t496.length co18)) (fun _ hk => hk.2) (.int .i64 t499)) (fun _ h_ => h_.1)))))) (Kd.R_lt (kr ((Kd.R_mono (Kd.R_far (p := ⟨gb500, 1, none⟩) (Kd.R_far (p := ⟨gb500, 0, none⟩) (Kd.R_types HO498.out BK500.out (by decide)) (fun _ hk => hk.2) (.slice Ao18 t496.length co18)) (fun _ hk => hk.2) (.int .i64 t499)) (fun _ h_ => h_.1)))))) (below_size (bw HB.out))); have n4_ := Aside0.mk (blk_below (g := gb494) (o := .cells #[.slice Ao11 t485.length co11] 29 (0, 0)) (kf BK494.out) hb); have n5_ := Aside0.mk (blk_below (g := gb495) (o := .cells #[.slice Ao14 t488.length co14, .int .i64 t491] 32 (0, 0)) (kf BK495.out) hb); have n6_ := Aside0.mk (blk_below (g := gb500) (o := .cells #[.slice Ao18 t496.length co18, .int .i64 t499] 32 (0, 0)) (by (with_reducible repeat (first | refine blk_drewN ?_ _ | refine blk_drew ?_ | refine blk_alloc ?_ _)); refine blk_put (cs := #[.slice Ao18 t496.length co18, .int .i64 0]) ?_ 1 _ rfl; (with_reducible repeat (first | refine blk_drewN ?_ _ | refine blk_drew ?_ | refine blk_alloc ?_ _)); refine blk_put (cs := #[.slice none 0 0, .int .i64 0]) ?_ 0 _ rfl; (with_reducible repeat (first | refine blk_drewN ?_ _ | refine blk_drew ?_ | refine blk_alloc ?_ _)); exact BK500.out) hb); have n7_ := Aside0.mk (below_step (bw HB.out) hb); clear HO487; clear HO490; clear HO498; clear BK494; clear BK495; clear BK500; clear HB; have HO487 := n0_; have HO490 := n1_; have HO498 := n2_; have HO503 := n3_; have BK494 := n4_; have BK495 := n5_; have BK500 := n6_; have HB := n7_; clear n0_ n1_ n2_ n3_ n4_ n5_ n6_ n7_; (try clear hb); (try clear hb2); (try clear hk); (try clear hi); (try clear ho0)) | ((with_reducible refine gate_dst (N := 8) rfl ?_); refine bx (N := 8) (cs := #[.slice none 0 0, .int .i64 0]) (t := 32) ?_; intro gb505 hg w25 hbox hb; have n0_ := Aside0.mk (Kd.S_below (ks HO487.out) hb); have n1_ := Aside0.mk (Kd.Q_below (kq HO490.out) hb); have n2_ := Aside0.mk (Kd.R_below (kr HO498.out) hb); have n3_ := Aside0.mk (Kd.R_below (kr HO503.out) hb); have n4_ := Aside0.mk (blk_below (g := gb494) (o := .cells #[.slice Ao11 t485.length co11] 29 (0, 0)) (kb BK494.out) hb); have n5_ := Aside0.mk (blk_below (g := gb495) (o := .cells #[.slice Ao14 t488.length co14, .int .i64 t491] 32 (0, 0)) (kb BK495.out) hb); have n6_ := Aside0.mk (blk_below (g := gb500) (o := .cells #[.slice Ao18 t496.length co18, .int .i64 t499] 32 (0, 0)) (kb BK500.out) hb); have n7_ := Aside0.mk (below_step (bw HB.out) hb); have n8_ := Aside0.mk (hbox); have n9_ := Aside0.mk ((gs hg (bw HB.out))); have n10_ := Aside0.mk ((gs hg (bw HB.out))); have n11_ := Aside0.mk ((ga hg BK494.out)); have n12_ := Aside0.mk ((gc hg BK494.out)); have n13_ := Aside0.mk ((ga hg BK495.out)); have n14_ := Aside0.mk ((gc hg BK495.out)); have n15_ := Aside0.mk ((ga hg BK500.out)); have n16_ := Aside0.mk ((gc hg BK500.out)); clear HO487; clear HO490; clear HO498; clear HO503; clear BK494; clear BK495; clear BK500; clear HB; have HO487 := n0_; have HO490 := n1_; have HO498 := n2_; have HO503 := n3_; have BK494 := n4_; have BK495 := n5_; have BK500 := n6_; have HB := n7_; have BK505 := n8_; have GW505 := n9_; have GE505 := n10_; have NB494_505 := n11_; have NB505_494 := n12_; have NB495_505 := n13_; have NB505_495 := n14_; have NB500_505 := n15_; have NB505_500 := n16_; clear n0_ n1_ n2_ n3_ n4_ n5_ n6_ n7_ n8_ n9_ n10_ n11_ n12_ n13_ n14_ n15_ n16_; clear hb hbox hg; obtain ⟨Ao26, co26, eo26⟩ := Kd.R_slice HO503.out; subst eo26; have hnb27 := NB505_494.out; have hnc27 := NB494_505.out; have hnb28 := NB505_495.out; have hnc28 := NB495_505.out; have hnb29 := NB505_500.out; have hnc29 := NB500_505.out; have hcz30_0 : w25.cell? ⟨gb505, 0, none⟩ = some (.slice none 0 0) := (blk_cell BK505.out 0).trans rfl; have hcz30_1 : w25.cell? ⟨gb505, 1, none⟩ = some (.int .i64 0) := (blk_cell BK505.out 1).trans rfl; have hfz30_0 := blk_frozen BK505.out 0; have hfz30_1 := blk_frozen BK505.out 1))
  (try simp only [Act.put, List.setIfInBounds_toArray, List.set_cons_zero, List.set_cons_succ])
  go_cut [51] (fun v51 wc => ∃ (kq : Nat) (x51_6 : Bool), v51 = .bool x51_6 ∧ Aside0 (laws_FnMemory.j0 kq t492 t493 x51_6 t485 t488 t491 t496 t499 = some r) ∧ Aside0 (kq ≤ k) ∧ Aside0 (Kd.S (cutK 3 (Kd.int .i64)) 30 wc w.heap.size (fun k_ => some k_ ≠ ((.slice Ao14 t488.length co14) : Value).ownBlock ∧ some k_ ≠ ((.slice Ao18 t496.length co18) : Value).ownBlock ∧ some k_ ≠ ((.slice Ao26 t501.length co26) : Value).ownBlock) (.slice Ao11 t485.length co11) t485) ∧ Aside0 (Kd.Q (Kd.int .i64) 3 wc w.heap.size (fun k_ => some k_ ≠ ((.slice Ao18 t496.length co18) : Value).ownBlock ∧ some k_ ≠ ((.slice Ao26 t501.length co26) : Value).ownBlock) (.slice Ao14 t488.length co14) t488) ∧ Aside0 (Kd.Q (Kd.int .i64) 3 wc w.heap.size (fun k_ => some k_ ≠ ((.slice Ao14 t488.length co14) : Value).ownBlock ∧ some k_ ≠ ((.slice Ao26 t501.length co26) : Value).ownBlock) (.slice Ao18 t496.length co18) t496) ∧ Aside0 (Kd.Q (Kd.int .i64) 3 wc w.heap.size (fun k_ => some k_ ≠ ((.slice Ao14 t488.length co14) : Value).ownBlock ∧ some k_ ≠ ((.slice Ao18 t496.length co18) : Value).ownBlock) (.slice Ao26 t501.length co26) t501) ∧ Aside0 (wc.heap[gb494]? = some (.cells #[(.slice Ao11 t485.length co11)] 29 (0, 0))) ∧ Aside0 (wc.heap[gb495]? = some (.cells #[(.slice Ao14 t488.length co14), .int .i64 t491] 32 (0, 0))) ∧ Aside0 (wc.heap[gb500]? = some (.cells #[(.slice Ao18 t496.length co18), .int .i64 t499] 32 (0, 0))) ∧ Aside0 (wc.heap[gb505]? = some (.cells #[(.slice Ao26 t501.length co26), .int .i64 t504] 32 (0, 0))) ∧ Aside0 (Below w.heap.size w wc))
  case first =>
   have H := HC7.out
   clear HC7
   by_cases c31 : t499 = t504
   ·rw [if_pos c31] at H
    have c31b0 : (t499 == t504) = true := beq_iff_eq.mpr c31
    have c31b1 : (t499 != t504) = false := bne_eq_false_iff_eq.mpr c31
    clear c31
    (first | rw [c31b0] | (simp only [i64_w, i32_w]; rw [c31b0]) | skip)
    replace H := Option.bind_eq_some_iff.mp H
    obtain ⟨t506, A320, H⟩ := H
    replace H : (if t506 = true then ((impl_MemOk.f k t485 t488 t491).bind fun t507 => ((spec_MemOk.f k t485 t488 t491).bind fun t508 => (laws_FnMemory.j0 k t492 t493 (t507 != t508) t485 t488 t491 t496 t499))) else (laws_FnMemory.j0 k t492 t493 true t485 t488 t491 t496 t499)) = some r := H
    have A32 := Aside0.mk A320
    clear A320
    by_cases c33 : t506 = true
    ·subst c33
     have H1 : ((impl_MemOk.f k t485 t488 t491).bind fun t507 => ((spec_MemOk.f k t485 t488 t491).bind fun t508 => (laws_FnMemory.j0 k t492 t493 (t507 != t508) t485 t488 t491 t496 t499))) = some r := by rw [if_pos rfl] at H; exact H
     clear H
     have H := H1
     clear H1
     replace H := Option.bind_eq_some_iff.mp H
     obtain ⟨t507, A340, H⟩ := H
     replace H : ((spec_MemOk.f k t485 t488 t491).bind fun t508 => (laws_FnMemory.j0 k t492 t493 (t507 != t508) t485 t488 t491 t496 t499)) = some r := H
     have A34 := Aside0.mk A340
     clear A340
     replace H := Option.bind_eq_some_iff.mp H
     obtain ⟨t508, A350, H⟩ := H
     replace H : (laws_FnMemory.j0 k t492 t493 (t507 != t508) t485 t488 t491 t496 t499) = some r := H
     have A35 := Aside0.mk A350
     clear A350
     have H' := Aside0.mk H
     clear H
     try go_wp2
     have n0_ : Aside0 (Kd.S (cutK 3 (Kd.int .i64)) 30 ((w25.setCell ⟨gb505, 0, none⟩ (.slice Ao26 t501.length co26)).setCell ⟨gb505, 1, none⟩ (.int .i64 t504)) w.heap.size (fun k_ => some k_ ≠ (.slice Ao14 t488.length co14 : Value).ownBlock ∧ some k_ ≠ (.slice Ao18 t496.length co18 : Value).ownBlock ∧ some k_ ≠ (.slice Ao26 t501.length co26 : Value).ownBlock) (.slice Ao11 t485.length co11) t485) := ⟨ks (Kd.S_mono (Kd.S_far (p := ⟨gb505, 1, none⟩) (Kd.S_far (p := ⟨gb505, 0, none⟩) (Kd.S_types HO487.out BK505.out (by decide)) (fun _ hk => hk.2) (.slice Ao26 t501.length co26)) (fun _ hk => hk.2) (.int .i64 t504)) (fun _ hk => ⟨hk.1.1.1, ⟨hk.1.1.2, hk.1.2⟩⟩))⟩
     have n1_ : Aside0 (Kd.Q (Kd.int .i64) 3 ((w25.setCell ⟨gb505, 0, none⟩ (.slice Ao26 t501.length co26)).setCell ⟨gb505, 1, none⟩ (.int .i64 t504)) w.heap.size (fun k_ => some k_ ≠ (.slice Ao18 t496.length co18 : Value).ownBlock ∧ some k_ ≠ (.slice Ao26 t501.length co26 : Value).ownBlock) (.slice Ao14 t488.length co14) t488) := ⟨kq (Kd.Q_mono (Kd.Q_far (p := ⟨gb505, 1, none⟩) (Kd.Q_far (p := ⟨gb505, 0, none⟩) (Kd.Q_types HO490.out BK505.out (by decide)) (fun _ hk => hk.2) (.slice Ao26 t501.length co26)) (fun _ hk => hk.2) (.int .i64 t504)) (fun _ hk => ⟨hk.1.1.2, hk.1.2⟩))⟩
     have n2_ : Aside0 (Kd.R (Kd.int .i64) 3 ((w25.setCell ⟨gb505, 0, none⟩ (.slice Ao26 t501.length co26)).setCell ⟨gb505, 1, none⟩ (.int .i64 t504)) w.heap.size (fun k_ => some k_ ≠ (.slice Ao14 t488.length co14 : Value).ownBlock ∧ some k_ ≠ (.slice Ao26 t501.length co26 : Value).ownBlock) (.slice Ao18 t496.length co18) t496) := ⟨kr (Kd.R_mono (Kd.R_far (p := ⟨gb505, 1, none⟩) (Kd.R_far (p := ⟨gb505, 0, none⟩) (Kd.R_types HO498.out BK505.out (by decide)) (fun _ hk => hk.2) (.slice Ao26 t501.length co26)) (fun _ hk => hk.2) (.int .i64 t504)) (fun _ hk => ⟨hk.1.1.2, hk.1.2⟩))⟩
     have n3_ : Aside0 (Kd.R (Kd.int .i64) 3 ((w25.setCell ⟨gb505, 0, none⟩ (.slice Ao26 t501.length co26)).setCell ⟨gb505, 1, none⟩ (.int .i64 t504)) w.heap.size (fun k_ => some k_ ≠ (.slice Ao14 t488.length co14 : Value).ownBlock ∧ some k_ ≠ (.slice Ao18 t496.length co18 : Value).ownBlock) (.slice Ao26 t501.length co26) t501) := ⟨kr (Kd.R_mono (Kd.R_far (p := ⟨gb505, 1, none⟩) (Kd.R_far (p := ⟨gb505, 0, none⟩) (Kd.R_types HO503.out BK505.out (by decide)) (fun _ hk => hk.2) (.slice Ao26 t501.length co26)) (fun _ hk => hk.2) (.int .i64 t504)) (fun _ hk => ⟨hk.1.1.2, hk.1.2⟩))⟩
     have n4_ : Aside0 (((w25.setCell ⟨gb505, 0, none⟩ (.slice Ao26 t501.length co26)).setCell ⟨gb505, 1, none⟩ (.int .i64 t504)).heap[gb494]? = some (.cells #[.slice Ao11 t485.length co11] 29 (0, 0))) := ⟨kf BK494.out⟩
     have n5_ : Aside0 (((w25.setCell ⟨gb505, 0, none⟩ (.slice Ao26 t501.length co26)).setCell ⟨gb505, 1, none⟩ (.int .i64 t504)).heap[gb495]? = some (.cells #[.slice Ao14 t488.length co14, .int .i64 t491] 32 (0, 0))) := ⟨kf BK495.out⟩
     have n6_ : Aside0 (((w25.setCell ⟨gb505, 0, none⟩ (.slice Ao26 t501.length co26)).setCell ⟨gb505, 1, none⟩ (.int .i64 t504)).heap[gb500]? = some (.cells #[.slice Ao18 t496.length co18, .int .i64 t499] 32 (0, 0))) := ⟨kf BK500.out⟩
     have n7_ : Aside0 (((w25.setCell ⟨gb505, 0, none⟩ (.slice Ao26 t501.length co26)).setCell ⟨gb505, 1, none⟩ (.int .i64 t504)).heap[gb505]? = some (.cells #[.slice Ao26 t501.length co26, .int .i64 t504] 32 (0, 0))) := ⟨by (with_reducible repeat (first | refine blk_drewN ?_ _ | refine blk_drew ?_ | refine blk_alloc ?_ _)); refine blk_put (cs := #[.slice Ao26 t501.length co26, .int .i64 0]) ?_ 1 _ rfl; (with_reducible repeat (first | refine blk_drewN ?_ _ | refine blk_drew ?_ | refine blk_alloc ?_ _)); refine blk_put (cs := #[.slice none 0 0, .int .i64 0]) ?_ 0 _ rfl; (with_reducible repeat (first | refine blk_drewN ?_ _ | refine blk_drew ?_ | refine blk_alloc ?_ _)); exact BK505.out⟩
     have n8_ : Aside0 (Below w.heap.size w ((w25.setCell ⟨gb505, 0, none⟩ (.slice Ao26 t501.length co26)).setCell ⟨gb505, 1, none⟩ (.int .i64 t504))) := ⟨bw HB.out⟩
     (try clear HO487); (try clear HO490); (try clear HO498); (try clear HO503); (try clear BK494); (try clear BK495); (try clear BK500); (try clear BK505); (try clear HB)
     generalize ((w25.setCell ⟨gb505, 0, none⟩ (.slice Ao26 t501.length co26)).setCell ⟨gb505, 1, none⟩ (.int .i64 t504)) = w36 at n0_ n1_ n2_ n3_ n4_ n5_ n6_ n7_ n8_ ⊢
     have HO487 := n0_; have HO490 := n1_; have HO498 := n2_; have HO503 := n3_; have BK494 := n4_; have BK495 := n5_; have BK500 := n6_; have BK505 := n7_; have HB := n8_; clear n0_ n1_ n2_ n3_ n4_ n5_ n6_ n7_ n8_
     have n0_ := Aside0.mk (Kd.S_drew HO487.out)
     have n1_ := Aside0.mk (Kd.Q_drew HO490.out)
     have n2_ := Aside0.mk (Kd.R_drew HO498.out)
     have n3_ := Aside0.mk (Kd.R_drew HO503.out)
     have n4_ := Aside0.mk (blk_drew BK494.out)
     have n5_ := Aside0.mk (blk_drew BK495.out)
     have n6_ := Aside0.mk (blk_drew BK500.out)
     have n7_ := Aside0.mk (blk_drew BK505.out)
     have n8_ := Aside0.mk (below_drew1 HB.out)
     clear HO487; clear HO490; clear HO498; clear HO503; clear BK494; clear BK495; clear BK500; clear BK505; clear HB; have HO487 := n0_; have HO490 := n1_; have HO498 := n2_; have HO503 := n3_; have BK494 := n4_; have BK495 := n5_; have BK500 := n6_; have BK505 := n7_; have HB := n8_; clear n0_ n1_ n2_ n3_ n4_ n5_ n6_ n7_ n8_
     refine start_ (n := 22) (S := fun w' => w'.cell? ⟨gb500, 0, none⟩ = some (.slice Ao18 t496.length co18) ∧ w'.cell? ⟨gb500, 1, none⟩ = some (.int .i64 t499) ∧ w'.cell? ⟨gb505, 0, none⟩ = some (.slice Ao26 t501.length co26) ∧ w'.cell? ⟨gb505, 1, none⟩ = some (.int .i64 t504) ∧ w'.cell? ⟨gb494, 0, none⟩ = some (.slice Ao11 t485.length co11) ∧ w'.cell? ⟨gb495, 0, none⟩ = some (.slice Ao14 t488.length co14) ∧ w'.cell? ⟨gb495, 1, none⟩ = some (.int .i64 t491)) (ds := []) #[false, false, false, false, false, false, false, false, false, false, false, false, false, false, false, false, false, false, false, false, false, false] (by kernel_rfl) rfl rfl ⟨(blk_cell BK500.out 0).trans rfl, (blk_cell BK500.out 1).trans rfl, (blk_cell BK505.out 0).trans rfl, (blk_cell BK505.out 1).trans rfl, (blk_cell BK494.out 0).trans rfl, (blk_cell BK495.out 0).trans rfl, (blk_cell BK495.out 1).trans rfl⟩ (fun hHeld => ?_); refine with_tabW laws_FnMemory.tab6 laws_FnMemory.bits6 (fun HT_ HW_ => ?_)
     generalize w36.drew = w37 at HO487 HO490 HO498 HO503 BK494 BK495 BK500 BK505 HB hHeld ⊢
     refine pure_ (i := 0) (N := some 30) (v := ?_) (a' := ?_) #[true, false, false, false, false, false, false, false, false, false, false, false, false, false, false, false, false, false, false, false, false, false] rfl rfl (any_of HT_.out (by kernel_rfl)) (fun _ _ _ h => h) (Or.inl ⟨by rfl, ?_⟩) ?_ ?_
     rotate_left
     ·intro w'
      go_simp
      with_reducible rfl
     rotate_left
     ·simp only [Act.put, List.setIfInBounds_toArray, List.set_cons_zero, List.set_cons_succ, i64_w, i32_w]
      rfl
     refine pure_ (i := 2) (N := some 32) (v := ?_) (a' := ?_) #[true, false, true, false, false, false, false, false, false, false, false, false, false, false, false, false, false, false, false, false, false, false] rfl rfl (any_of HT_.out (by kernel_rfl)) (fun _ _ _ h => h) (Or.inl ⟨by rfl, ?_⟩) ?_ ?_
     rotate_left
     ·intro w'
      go_simp
      with_reducible rfl
     rotate_left
     ·simp only [Act.put, List.setIfInBounds_toArray, List.set_cons_zero, List.set_cons_succ, i64_w, i32_w]
      rfl
     refine take_ (i := 1) (N := some 31) (v := ?_) (a' := ?_) #[true, true, true, false, false, false, false, false, false, false, false, false, false, false, false, false, false, false, false, false, false, false] rfl rfl (take_ofW HT_.out HW_.out (by kernel_rfl)) (fun _ _ _ h => h) (Or.inl ⟨by rfl, ?_⟩) hHeld ?_ ?_
     rotate_left
     ·rintro w' ⟨s0, s1, s2, s3, s4, s5, s6⟩
      go_simp
      with_reducible rfl
     rotate_left
     ·simp only [Act.put, List.setIfInBounds_toArray, List.set_cons_zero, List.set_cons_succ, i64_w, i32_w]
      rfl
     refine take_ (i := 3) (N := some 33) (v := ?_) (a' := ?_) #[true, true, true, true, false, false, false, false, false, false, false, false, false, false, false, false, false, false, false, false, false, false] rfl rfl (take_ofW HT_.out HW_.out (by kernel_rfl)) (fun _ _ _ h => h) (Or.inl ⟨by rfl, ?_⟩) hHeld ?_ ?_
     rotate_left
     ·rintro w' ⟨s0, s1, s2, s3, s4, s5, s6⟩
      go_simp
      with_reducible rfl
     rotate_left
     ·simp only [Act.put, List.setIfInBounds_toArray, List.set_cons_zero, List.set_cons_succ, i64_w, i32_w]
      rfl
     refine pure_ (i := 4) (N := some 34) (v := ?_) (a' := ?_) #[true, true, true, true, true, false, false, false, false, false, false, false, false, false, false, false, false, false, false, false, false, false] rfl rfl (any_of HT_.out (by kernel_rfl)) (fun _ _ _ h => h) (Or.inl ⟨by rfl, ?_⟩) ?_ ?_
     rotate_left
     ·intro w'
      go_simp
      with_reducible rfl
     rotate_left
     ·simp only [Act.put, List.setIfInBounds_toArray, List.set_cons_zero, List.set_cons_succ, i64_w, i32_w]
      rfl
     refine pure_ (i := 5) (N := some 35) (v := ?_) (a' := ?_) #[true, true, true, true, true, true, false, false, false, false, false, false, false, false, false, false, false, false, false, false, false, false] rfl rfl (any_of HT_.out (by kernel_rfl)) (fun _ _ _ h => h) (Or.inl ⟨by rfl, ?_⟩) ?_ ?_
     rotate_left
     ·intro w'
      go_simp
      with_reducible rfl
     rotate_left
     ·simp only [Act.put, List.setIfInBounds_toArray, List.set_cons_zero, List.set_cons_succ, i64_w, i32_w]
      rfl
     refine pure_ (i := 6) (N := some 36) (v := ?_) (a' := ?_) #[true, true, true, true, true, true, true, false, false, false, false, false, false, false, false, false, false, false, false, false, false, false] rfl rfl (any_of HT_.out (by kernel_rfl)) (fun _ _ _ h => h) (Or.inl ⟨by rfl, ?_⟩) ?_ ?_
     rotate_left
     ·intro w'
      go_simp
      with_reducible rfl
     rotate_left
     ·simp only [Act.put, List.setIfInBounds_toArray, List.set_cons_zero, List.set_cons_succ, i64_w, i32_w]
      rfl
     refine pure_ (i := 8) (N := some 38) (v := ?_) (a' := ?_) #[true, true, true, true, true, true, true, false, true, false, false, false, false, false, false, false, false, false, false, false, false, false] rfl rfl (any_of HT_.out (by kernel_rfl)) (fun _ _ _ h => h) (Or.inl ⟨by rfl, ?_⟩) ?_ ?_
     rotate_left
     ·intro w'
      go_simp
      with_reducible rfl
     rotate_left
     ·simp only [Act.put, List.setIfInBounds_toArray, List.set_cons_zero, List.set_cons_succ, i64_w, i32_w]
      rfl
     refine take_ (i := 7) (N := some 37) (v := ?_) (a' := ?_) #[true, true, true, true, true, true, true, true, true, false, false, false, false, false, false, false, false, false, false, false, false, false] rfl rfl (take_ofW HT_.out HW_.out (by kernel_rfl)) (fun _ _ _ h => h) (Or.inl ⟨by rfl, ?_⟩) hHeld ?_ ?_
     rotate_left
     ·rintro w' ⟨s0, s1, s2, s3, s4, s5, s6⟩
      go_simp
      with_reducible rfl
     rotate_left
     ·simp only [Act.put, List.setIfInBounds_toArray, List.set_cons_zero, List.set_cons_succ, i64_w, i32_w]
      rfl
     refine take_ (i := 9) (N := some 39) (v := ?_) (a' := ?_) #[true, true, true, true, true, true, true, true, true, true, false, false, false, false, false, false, false, false, false, false, false, false] rfl rfl (take_ofW HT_.out HW_.out (by kernel_rfl)) (fun _ _ _ h => h) (Or.inl ⟨by rfl, ?_⟩) hHeld ?_ ?_
     rotate_left
     ·rintro w' ⟨s0, s1, s2, s3, s4, s5, s6⟩
      go_simp
      with_reducible rfl
     rotate_left
     ·simp only [Act.put, List.setIfInBounds_toArray, List.set_cons_zero, List.set_cons_succ, i64_w, i32_w]
      rfl
     refine one_ (i := 10) (N := some 40) #[true, true, true, true, true, true, true, true, true, true, true, false, false, false, false, false, false, false, false, false, false, false] rfl rfl (one_of HT_.out (by kernel_rfl)) (by decide) (fun K hK => ?_)
     refine goes_ Try.func26 (by kernel_rfl) rfl #[.slice Ao18 t496.length co18, .slice Ao26 t501.length co26] (by rfl) rfl rfl (by (try simp only [List.map_toArray, List.map_cons, List.map_nil]); first | done | rfl | (simp only [List.length_drop, List.length_take]; rfl)) ?_
     with_reducible refine (laws_sameInts.calls k _ _ t496 _ _ t501 true _ ?side1 ?side2 ?side3 ?side4 A32.out).mono ?_
     (case side1 => repeat (first | exact (Kd.R_reads' HO498.out).2.2 | (with_reducible refine Kd.C_alloc ?_ _) | (with_reducible refine Kd.C_drewN ?_ _) | (with_reducible refine Kd.C_drew ?_)))
     (case side2 => exact (Kd.R_reads' HO498.out).2.1)
     (case side3 => repeat (first | exact (Kd.R_reads' HO503.out).2.2 | (with_reducible refine Kd.C_alloc ?_ _) | (with_reducible refine Kd.C_drewN ?_ _) | (with_reducible refine Kd.C_drew ?_)))
     (case side4 => exact (Kd.R_reads' HO503.out).2.1)
     rintro e w' ⟨rfl, ⟨nd, rfl⟩⟩
     refine ⟨_, rfl, ?_⟩
     have n0_ := Aside0.mk (Kd.S_drewN HO487.out nd)
     have n1_ := Aside0.mk (Kd.Q_drewN HO490.out nd)
     have n2_ := Aside0.mk (Kd.R_drewN HO498.out nd)
     have n3_ := Aside0.mk (Kd.R_drewN HO503.out nd)
     have n4_ := Aside0.mk (blk_drewN BK494.out nd)
     have n5_ := Aside0.mk (blk_drewN BK495.out nd)
     have n6_ := Aside0.mk (blk_drewN BK500.out nd)
     have n7_ := Aside0.mk (blk_drewN BK505.out nd)
     have n8_ := Aside0.mk (pw_below_drewN HB.out nd)
     clear HO487; clear HO490; clear HO498; clear HO503; clear BK494; clear BK495; clear BK500; clear BK505; clear HB; have HO487 := n0_; have HO490 := n1_; have HO498 := n2_; have HO503 := n3_; have BK494 := n4_; have BK495 := n5_; have BK500 := n6_; have BK505 := n7_; have HB := n8_; clear n0_ n1_ n2_ n3_ n4_ n5_ n6_ n7_ n8_
     generalize w37.drewN nd = w37 at HO487 HO490 HO498 HO503 BK494 BK495 BK500 BK505 HB ⊢
     refine hK.out _ _ ⟨(blk_cell BK500.out 0).trans rfl, (blk_cell BK500.out 1).trans rfl, (blk_cell BK505.out 0).trans rfl, (blk_cell BK505.out 1).trans rfl, (blk_cell BK494.out 0).trans rfl, (blk_cell BK495.out 0).trans rfl, (blk_cell BK495.out 1).trans rfl⟩ (fun hHeld => ?_)
     clear hK K
     refine norm_ (a' := ?_) ?_ ?_
     rotate_left
     ·show Act.put _ (some 40) _ = _
      simp only [Act.put, List.setIfInBounds_toArray, List.set_cons_zero, List.set_cons_succ, i64_w, i32_w]
      rfl
     refine pure_ (i := 11) (N := some 41) (v := ?_) (a' := ?_) #[true, true, true, true, true, true, true, true, true, true, true, true, false, false, false, false, false, false, false, false, false, false] rfl rfl (any_of HT_.out (by kernel_rfl)) (fun _ _ _ h => h) (Or.inl ⟨by rfl, ?_⟩) ?_ ?_
     rotate_left
     ·intro w'
      go_simp
      with_reducible rfl
     rotate_left
     ·simp only [Act.put, List.setIfInBounds_toArray, List.set_cons_zero, List.set_cons_succ, i64_w, i32_w]
      rfl
     refine pure_ (i := 12) (N := some 42) (v := ?_) (a' := ?_) #[true, true, true, true, true, true, true, true, true, true, true, true, true, false, false, false, false, false, false, false, false, false] rfl rfl (any_of HT_.out (by kernel_rfl)) (fun _ _ _ h => h) (Or.inl ⟨by rfl, ?_⟩) ?_ ?_
     rotate_left
     ·intro w'
      go_simp
      with_reducible rfl
     rotate_left
     ·simp only [Act.put, List.setIfInBounds_toArray, List.set_cons_zero, List.set_cons_succ, i64_w, i32_w]
      rfl
     refine pure_ (i := 13) (N := some 43) (v := ?_) (a' := ?_) #[true, true, true, true, true, true, true, true, true, true, true, true, true, true, false, false, false, false, false, false, false, false] rfl rfl (any_of HT_.out (by kernel_rfl)) (fun _ _ _ h => h) (Or.inl ⟨by rfl, ?_⟩) ?_ ?_
     rotate_left
     ·intro w'
      go_simp
      with_reducible rfl
     rotate_left
     ·simp only [Act.put, List.setIfInBounds_toArray, List.set_cons_zero, List.set_cons_succ, i64_w, i32_w]
      rfl
     refine take_ (i := 14) (N := some 44) (v := ?_) (a' := ?_) #[true, true, true, true, true, true, true, true, true, true, true, true, true, true, true, false, false, false, false, false, false, false] rfl rfl (take_ofW HT_.out HW_.out (by kernel_rfl)) (fun _ _ _ h => h) (Or.inl ⟨by rfl, ?_⟩) hHeld ?_ ?_
     rotate_left
     ·rintro w' ⟨s0, s1, s2, s3, s4, s5, s6⟩
      go_simp
      with_reducible rfl
     rotate_left
     ·simp only [Act.put, List.setIfInBounds_toArray, List.set_cons_zero, List.set_cons_succ, i64_w, i32_w]
      rfl
     refine take_ (i := 15) (N := some 45) (v := ?_) (a' := ?_) #[true, true, true, true, true, true, true, true, true, true, true, true, true, true, true, true, false, false, false, false, false, false] rfl rfl (take_ofW HT_.out HW_.out (by kernel_rfl)) (fun _ _ _ h => h) (Or.inl ⟨by rfl, ?_⟩) hHeld ?_ ?_
     rotate_left
     ·rintro w' ⟨s0, s1, s2, s3, s4, s5, s6⟩
      go_simp
      with_reducible rfl
     rotate_left
     ·simp only [Act.put, List.setIfInBounds_toArray, List.set_cons_zero, List.set_cons_succ, i64_w, i32_w]
      rfl
     refine take_ (i := 17) (N := some 47) (v := ?_) (a' := ?_) #[true, true, true, true, true, true, true, true, true, true, true, true, true, true, true, true, false, true, false, false, false, false] rfl rfl (take_ofW HT_.out HW_.out (by kernel_rfl)) (fun _ _ _ h => h) (Or.inl ⟨by rfl, ?_⟩) hHeld ?_ ?_
     rotate_left
     ·rintro w' ⟨s0, s1, s2, s3, s4, s5, s6⟩
      go_simp
      with_reducible rfl
     rotate_left
     ·simp only [Act.put, List.setIfInBounds_toArray, List.set_cons_zero, List.set_cons_succ, i64_w, i32_w]
      rfl
     refine take_ (i := 18) (N := some 48) (v := ?_) (a' := ?_) #[true, true, true, true, true, true, true, true, true, true, true, true, true, true, true, true, false, true, true, false, false, false] rfl rfl (take_ofW HT_.out HW_.out (by kernel_rfl)) (fun _ _ _ h => h) (Or.inl ⟨by rfl, ?_⟩) hHeld ?_ ?_
     rotate_left
     ·rintro w' ⟨s0, s1, s2, s3, s4, s5, s6⟩
      go_simp
      with_reducible rfl
     rotate_left
     ·simp only [Act.put, List.setIfInBounds_toArray, List.set_cons_zero, List.set_cons_succ, i64_w, i32_w]
      rfl
     refine one_ (i := 16) (N := some 46) #[true, true, true, true, true, true, true, true, true, true, true, true, true, true, true, true, true, true, true, false, false, false] rfl rfl (one_of HT_.out (by kernel_rfl)) (by decide) (fun K hK => ?_)
     refine goes_ Try.func32 (by kernel_rfl) rfl #[.agg #[.slice Ao11 t485.length co11], .agg #[.slice Ao14 t488.length co14, .int .i64 t491]] (by rfl) rfl rfl (by (try simp only [List.map_toArray, List.map_cons, List.map_nil]); first | done | rfl | (simp only [List.length_drop, List.length_take]; rfl)) ?_
     with_reducible refine (impl_MemOk.calls k _ _ t485 _ _ t488 t491 t507 _ ?side1 ?side2 ?side3 ?side4 A34.out).mono ?_
     (case side1 => repeat (first | exact (Kd.S_reads' HO487.out).2.2 | (with_reducible refine Kd.C_alloc ?_ _) | (with_reducible refine Kd.C_drewN ?_ _) | (with_reducible refine Kd.C_drew ?_)))
     (case side2 => exact (Kd.S_reads' HO487.out).2.1)
     (case side3 => repeat (first | exact (Kd.Q_reads' HO490.out).2.2 | (with_reducible refine Kd.C_alloc ?_ _) | (with_reducible refine Kd.C_drewN ?_ _) | (with_reducible refine Kd.C_drew ?_)))
     (case side4 => exact (Kd.Q_reads' HO490.out).2.1)
     rintro e w38 ⟨rfl, hb⟩
     refine ⟨_, rfl, ?_⟩
     have n0_ := Aside0.mk (Kd.S_below (ks HO487.out) hb)
     have n1_ := Aside0.mk (Kd.Q_below (kq HO490.out) hb)
     have n2_ := Aside0.mk (Kd.R_below (kr HO498.out) hb)
     have n3_ := Aside0.mk (Kd.R_below (kr HO503.out) hb)
     have n4_ := Aside0.mk (blk_below (g := gb494) (o := .cells #[.slice Ao11 t485.length co11] 29 (0, 0)) (kb BK494.out) hb)
     have n5_ := Aside0.mk (blk_below (g := gb495) (o := .cells #[.slice Ao14 t488.length co14, .int .i64 t491] 32 (0, 0)) (kb BK495.out) hb)
     have n6_ := Aside0.mk (blk_below (g := gb500) (o := .cells #[.slice Ao18 t496.length co18, .int .i64 t499] 32 (0, 0)) (kb BK500.out) hb)
     have n7_ := Aside0.mk (blk_below (g := gb505) (o := .cells #[.slice Ao26 t501.length co26, .int .i64 t504] 32 (0, 0)) (kb BK505.out) hb)
     have n8_ := Aside0.mk (below_step (bw HB.out) hb)
     clear HO487; clear HO490; clear HO498; clear HO503; clear BK494; clear BK495; clear BK500; clear BK505; clear HB; have HO487 := n0_; have HO490 := n1_; have HO498 := n2_; have HO503 := n3_; have BK494 := n4_; have BK495 := n5_; have BK500 := n6_; have BK505 := n7_; have HB := n8_; clear n0_ n1_ n2_ n3_ n4_ n5_ n6_ n7_ n8_; (try clear hb); (try clear hb2); (try clear hk); (try clear hi)
     refine hK.out _ _ ⟨(blk_cell BK500.out 0).trans rfl, (blk_cell BK500.out 1).trans rfl, (blk_cell BK505.out 0).trans rfl, (blk_cell BK505.out 1).trans rfl, (blk_cell BK494.out 0).trans rfl, (blk_cell BK495.out 0).trans rfl, (blk_cell BK495.out 1).trans rfl⟩ (fun hHeld => ?_)
     clear hK K
     refine norm_ (a' := ?_) ?_ ?_
     rotate_left
     ·show Act.put _ (some 46) _ = _
      simp only [Act.put, List.setIfInBounds_toArray, List.set_cons_zero, List.set_cons_succ, i64_w, i32_w]
      rfl
     refine one_ (i := 19) (N := some 49) #[true, true, true, true, true, true, true, true, true, true, true, true, true, true, true, true, true, true, true, true, false, false] rfl rfl (one_of HT_.out (by kernel_rfl)) (by decide) (fun K hK => ?_)
     refine goes_ Try.func33 (by kernel_rfl) rfl #[.agg #[.slice Ao11 t485.length co11], .agg #[.slice Ao14 t488.length co14, .int .i64 t491]] (by rfl) rfl rfl (by (try simp only [List.map_toArray, List.map_cons, List.map_nil]); first | done | rfl | (simp only [List.length_drop, List.length_take]; rfl)) ?_
     with_reducible refine (spec_MemOk.calls k _ _ t485 _ _ t488 t491 t508 _ ?side1 ?side2 ?side3 ?side4 A35.out).mono ?_
     (case side1 => repeat (first | exact (Kd.S_reads' HO487.out).2.2 | (with_reducible refine Kd.C_alloc ?_ _) | (with_reducible refine Kd.C_drewN ?_ _) | (with_reducible refine Kd.C_drew ?_)))
     (case side2 => exact (Kd.S_reads' HO487.out).2.1)
     (case side3 => repeat (first | exact (Kd.Q_reads' HO490.out).2.2 | (with_reducible refine Kd.C_alloc ?_ _) | (with_reducible refine Kd.C_drewN ?_ _) | (with_reducible refine Kd.C_drew ?_)))
     (case side4 => exact (Kd.Q_reads' HO490.out).2.1)
     rintro e w39 ⟨rfl, hb⟩
     refine ⟨_, rfl, ?_⟩
     have n0_ := Aside0.mk (Kd.S_below (ks HO487.out) hb)
     have n1_ := Aside0.mk (Kd.Q_below (kq HO490.out) hb)
     have n2_ := Aside0.mk (Kd.R_below (kr HO498.out) hb)
     have n3_ := Aside0.mk (Kd.R_below (kr HO503.out) hb)
     have n4_ := Aside0.mk (blk_below (g := gb494) (o := .cells #[.slice Ao11 t485.length co11] 29 (0, 0)) (kb BK494.out) hb)
     have n5_ := Aside0.mk (blk_below (g := gb495) (o := .cells #[.slice Ao14 t488.length co14, .int .i64 t491] 32 (0, 0)) (kb BK495.out) hb)
     have n6_ := Aside0.mk (blk_below (g := gb500) (o := .cells #[.slice Ao18 t496.length co18, .int .i64 t499] 32 (0, 0)) (kb BK500.out) hb)
     have n7_ := Aside0.mk (blk_below (g := gb505) (o := .cells #[.slice Ao26 t501.length co26, .int .i64 t504] 32 (0, 0)) (kb BK505.out) hb)
     have n8_ := Aside0.mk (below_step (bw HB.out) hb)
     clear HO487; clear HO490; clear HO498; clear HO503; clear BK494; clear BK495; clear BK500; clear BK505; clear HB; have HO487 := n0_; have HO490 := n1_; have HO498 := n2_; have HO503 := n3_; have BK494 := n4_; have BK495 := n5_; have BK500 := n6_; have BK505 := n7_; have HB := n8_; clear n0_ n1_ n2_ n3_ n4_ n5_ n6_ n7_ n8_; (try clear hb); (try clear hb2); (try clear hk); (try clear hi)
     refine hK.out _ _ ⟨(blk_cell BK500.out 0).trans rfl, (blk_cell BK500.out 1).trans rfl, (blk_cell BK505.out 0).trans rfl, (blk_cell BK505.out 1).trans rfl, (blk_cell BK494.out 0).trans rfl, (blk_cell BK495.out 0).trans rfl, (blk_cell BK495.out 1).trans rfl⟩ (fun hHeld => ?_)
     clear hK K
     refine norm_ (a' := ?_) ?_ ?_
     rotate_left
     ·show Act.put _ (some 49) _ = _
      simp only [Act.put, List.setIfInBounds_toArray, List.set_cons_zero, List.set_cons_succ, i64_w, i32_w]
      rfl
     refine pure_ (i := 20) (N := some 50) (v := ?_) (a' := ?_) #[true, true, true, true, true, true, true, true, true, true, true, true, true, true, true, true, true, true, true, true, true, false] rfl rfl (any_of HT_.out (by kernel_rfl)) (fun _ _ _ h => h) (Or.inl ⟨by rfl, ?_⟩) ?_ ?_
     rotate_left
     ·intro w'
      go_simp
      with_reducible rfl
     rotate_left
     ·simp only [Act.put, List.setIfInBounds_toArray, List.set_cons_zero, List.set_cons_succ, i64_w, i32_w]
      rfl
     refine pure_ (i := 21) (N := some 51) (v := ?_) (a' := ?_) #[true, true, true, true, true, true, true, true, true, true, true, true, true, true, true, true, true, true, true, true, true, true] rfl rfl (any_of HT_.out (by kernel_rfl)) (fun _ _ _ h => h) (Or.inl ⟨by rfl, ?_⟩) ?_ ?_
     rotate_left
     ·intro w'
      go_simp
      with_reducible rfl
     rotate_left
     ·simp only [Act.put, List.setIfInBounds_toArray, List.set_cons_zero, List.set_cons_succ, i64_w, i32_w]
      rfl
     refine done_ (done_of HT_.out (by kernel_rfl)) ?_
     try go_wp2
     go_meet
     case rel => exact ⟨_, ((t507 != t508)), (by first | rfl | (simp; done) | (simp [*]; done)), H', ⟨by first | omega | exact Nat.le_refl _⟩, ⟨ks HO487.out⟩, ⟨kq HO490.out⟩, ⟨Kd.Q_of_R (kr HO498.out)⟩, ⟨Kd.Q_of_R (kr HO503.out)⟩, ⟨kb BK494.out⟩, ⟨kb BK495.out⟩, ⟨kb BK500.out⟩, ⟨kb BK505.out⟩, ⟨bw HB.out⟩⟩
    ·replace c33 := Bool.eq_false_iff.mpr c33
     subst c33
     have H1 : (laws_FnMemory.j0 k t492 t493 true t485 t488 t491 t496 t499) = some r := by rw [if_neg (show ¬ (false = true) by decide)] at H; exact H
     clear H
     have H := H1
     clear H1
     exact absurd (show r = false by first | (cases k with | zero => (simp [laws_FnMemory.j0] at H; done) | succ k_ => (simp [laws_FnMemory.j0] at H; (first | exact H | exact H.symm))) | (cases kj6 with | zero => (simp [laws_FnMemory.j0] at H; done) | succ k_ => (simp [laws_FnMemory.j0] at H; (first | exact H | exact H.symm))) | (cases kj85 with | zero => (simp [laws_FnMemory.j0] at H; done) | succ k_ => (simp [laws_FnMemory.j0] at H; (first | exact H | exact H.symm)))) (by rw [hrt]; decide)
   ·rw [if_neg c31] at H
    have c31b0 : (t499 == t504) = false := beq_eq_false_iff_ne.mpr c31
    have c31b1 : (t499 != t504) = true := bne_iff_ne.mpr c31
    (first | rw [c31b0] | (simp only [i64_w, i32_w]; rw [c31b0]) | skip)
    exact absurd (show r = false by first | (cases k with | zero => (simp [laws_FnMemory.j0] at H; done) | succ k_ => (simp [laws_FnMemory.j0] at H; (first | exact H | exact H.symm))) | (cases kj6 with | zero => (simp [laws_FnMemory.j0] at H; done) | succ k_ => (simp [laws_FnMemory.j0] at H; (first | exact H | exact H.symm))) | (cases kj85 with | zero => (simp [laws_FnMemory.j0] at H; done) | succ k_ => (simp [laws_FnMemory.j0] at H; (first | exact H | exact H.symm)))) (by rw [hrt]; decide)
  case rest =>
   clear HC7; (try clear c2); (try clear p2); (try clear c3); (try clear c26); (try clear c31); (try clear c31b0); (try clear c31b1); (try clear c32); (try clear c33)
   obtain ⟨kq, x51_6, rfl, HA, HJ6, HO_495000, HO_496000, HO_501000, HO_506000, BK494, BK495, BK500, BK505, HB⟩ := hcut
   cases kq with
   | zero => exact absurd HA.out (by simp [laws_FnMemory.j0])
   | succ kj6 =>
    have H := HA.out
    clear HA
    simp only [laws_FnMemory.j0] at H
    by_cases c44 : x51_6 = true
    ·subst c44
     have H1 : (some false) = some r := by rw [if_pos rfl] at H; exact H
     clear H
     have H := H1
     clear H1
     exact absurd ((Option.some.inj H).trans hrt) (by decide)
    ·replace c44 := Bool.eq_false_iff.mpr c44
     subst c44
     have H1 : ((impl_Region.f t492).bind fun bt509 => ((spec_MemOk.f kj6 t485 t488 t491).bind fun t511 => (if t511 = true then (if bt509.1 = 1 then ((impl_Peek.f kj6 t485 t496 t499 t492).bind fun t513 => ((impl_Byte.f t493).bind fun t514 => (if t513 = t514 then (if 0 ≤ bt509.2 then (if bt509.2 < (t496.length : Int) then ((impl_Byte.f t493).bind fun t516 => (if (rd t496 bt509.2) = t516 then (some (t499 == t491)) else (some false))) else (none)) else (none)) else (some false)))) else (if bt509.1 = 5 then (laws_FnMemory.j1 kj6 t492 t493 bt509.2 (bt509.1 == 5) t485 t488 t491 t496 t499) else (laws_FnMemory.j1 kj6 t492 t493 bt509.2 (bt509.1 == 6) t485 t488 t491 t496 t499))) else (if t499 = t491 then ((impl_Peek.f kj6 t485 t488 t491 t492).bind fun t512 => (some (t512 == 0))) else (some false))))) = some r := by rw [if_neg (show ¬ (false = true) by decide)] at H; exact H
     clear H
     have H := H1
     clear H1
     replace H := Option.bind_eq_some_iff.mp H
     obtain ⟨⟨t509, t510⟩, A450, H⟩ := H
     replace H : ((spec_MemOk.f kj6 t485 t488 t491).bind fun t511 => (if t511 = true then (if t509 = 1 then ((impl_Peek.f kj6 t485 t496 t499 t492).bind fun t513 => ((impl_Byte.f t493).bind fun t514 => (if t513 = t514 then (if 0 ≤ t510 then (if t510 < (t496.length : Int) then ((impl_Byte.f t493).bind fun t516 => (if (rd t496 t510) = t516 then (some (t499 == t491)) else (some false))) else (none)) else (none)) else (some false)))) else (if t509 = 5 then (laws_FnMemory.j1 kj6 t492 t493 t510 (t509 == 5) t485 t488 t491 t496 t499) else (laws_FnMemory.j1 kj6 t492 t493 t510 (t509 == 6) t485 t488 t491 t496 t499))) else (if t499 = t491 then ((impl_Peek.f kj6 t485 t488 t491 t492).bind fun t512 => (some (t512 == 0))) else (some false)))) = some r := H
     have A45 := Aside0.mk A450
     clear A450
     replace H := Option.bind_eq_some_iff.mp H
     obtain ⟨t511, A460, H⟩ := H
     replace H : (if t511 = true then (if t509 = 1 then ((impl_Peek.f kj6 t485 t496 t499 t492).bind fun t513 => ((impl_Byte.f t493).bind fun t514 => (if t513 = t514 then (if 0 ≤ t510 then (if t510 < (t496.length : Int) then ((impl_Byte.f t493).bind fun t516 => (if (rd t496 t510) = t516 then (some (t499 == t491)) else (some false))) else (none)) else (none)) else (some false)))) else (if t509 = 5 then (laws_FnMemory.j1 kj6 t492 t493 t510 (t509 == 5) t485 t488 t491 t496 t499) else (laws_FnMemory.j1 kj6 t492 t493 t510 (t509 == 6) t485 t488 t491 t496 t499))) else (if t499 = t491 then ((impl_Peek.f kj6 t485 t488 t491 t492).bind fun t512 => (some (t512 == 0))) else (some false))) = some r := H
     have A46 := Aside0.mk A460
     clear A460
     by_cases c47 : t511 = true
     ·subst c47
      have H1 : (if t509 = 1 then ((impl_Peek.f kj6 t485 t496 t499 t492).bind fun t513 => ((impl_Byte.f t493).bind fun t514 => (if t513 = t514 then (if 0 ≤ t510 then (if t510 < (t496.length : Int) then ((impl_Byte.f t493).bind fun t516 => (if (rd t496 t510) = t516 then (some (t499 == t491)) else (some false))) else (none)) else (none)) else (some false)))) else (if t509 = 5 then (laws_FnMemory.j1 kj6 t492 t493 t510 (t509 == 5) t485 t488 t491 t496 t499) else (laws_FnMemory.j1 kj6 t492 t493 t510 (t509 == 6) t485 t488 t491 t496 t499))) = some r := by rw [if_pos rfl] at H; exact H
      clear H
      have H := H1
      clear H1
      by_cases c48 : t509 = 1
      ·rw [if_pos c48] at H
       have c48b0 : (t509 == 1) = true := beq_iff_eq.mpr c48
       have c48b1 : (t509 != 1) = false := bne_eq_false_iff_eq.mpr c48
       clear c48
       replace H := Option.bind_eq_some_iff.mp H
       obtain ⟨t513, A490, H⟩ := H
       replace H : ((impl_Byte.f t493).bind fun t514 => (if t513 = t514 then (if 0 ≤ t510 then (if t510 < (t496.length : Int) then ((impl_Byte.f t493).bind fun t516 => (if (rd t496 t510) = t516 then (some (t499 == t491)) else (some false))) else (none)) else (none)) else (some false))) = some r := H
       have A49 := Aside0.mk A490
       clear A490
       replace H := Option.bind_eq_some_iff.mp H
       obtain ⟨t514, A500, H⟩ := H
       replace H : (if t513 = t514 then (if 0 ≤ t510 then (if t510 < (t496.length : Int) then ((impl_Byte.f t493).bind fun t516 => (if (rd t496 t510) = t516 then (some (t499 == t491)) else (some false))) else (none)) else (none)) else (some false)) = some r := H
       have A50 := Aside0.mk A500
       clear A500
       by_cases c51 : t513 = t514
       ·rw [if_pos c51] at H
        have c51b0 : (t513 == t514) = true := beq_iff_eq.mpr c51
        have c51b1 : (t513 != t514) = false := bne_eq_false_iff_eq.mpr c51
        clear c51
        by_cases c52 : 0 ≤ t510
        ·rw [if_pos c52] at H
         have c52b0 : decide (0 ≤ t510) = true := decide_eq_true c52
         clear c52
         by_cases c53 : t510 < (t496.length : Int)
         ·rw [if_pos c53] at H
          have c53b0 : decide (t510 < (t496.length : Int)) = true := decide_eq_true c53
          clear c53
          replace H := Option.bind_eq_some_iff.mp H
          obtain ⟨t516, A540, H⟩ := H
          replace H : (if (rd t496 t510) = t516 then (some (t499 == t491)) else (some false)) = some r := H
          have A54 := Aside0.mk A540
          clear A540
          by_cases c55 : (rd t496 t510) = t516
          ·rw [if_pos c55] at H
           have c55b0 : ((rd t496 t510) == t516) = true := beq_iff_eq.mpr c55
           have c55b1 : ((rd t496 t510) != t516) = false := bne_eq_false_iff_eq.mpr c55
           clear c55; clear hrt
           obtain rfl := Option.some.inj H
           try go_wp2_with (first | ((with_reducible refine gate_callee (f := 11) rfl ?_); refine goesM_ (some 54) rfl rfl Try.func11 #[.int .i64 t492] ?_; (with_reducible refine (impl_Region.calls t492 t509 t510 _ A45.out).mono ?_); rintro e w' ⟨rfl, ⟨nd, rfl⟩⟩; refine ⟨_, rfl, ?_⟩; have hnb56 := NB494_495.out; have hnc56 := NB495_494.out; have hnb57 := NB494_500.out; have hnc57 := NB500_494.out; have hnb58 := NB494_505.out; have hnc58 := NB505_494.out; have hcz59_0 : wc.cell? ⟨gb494, 0, none⟩ = some (.slice Ao11 t485.length co11) := (blk_cell BK494.out 0).trans rfl; have hfz59_0 := blk_frozen BK494.out 0; have hnb60 := NB495_500.out; have hnc60 := NB500_495.out; have hnb61 := NB495_505.out; have hnc61 := NB505_495.out; have hcz62_0 : wc.cell? ⟨gb495, 0, none⟩ = some (.slice Ao14 t488.length co14) := (blk_cell BK495.out 0).trans rfl; have hcz62_1 : wc.cell? ⟨gb495, 1, none⟩ = some (.int .i64 t491) := (blk_cell BK495.out 1).trans rfl; have hfz62_0 := blk_frozen BK495.out 0; have hfz62_1 := blk_frozen BK495.out 1) | ((with_reducible refine gate_callee (f := 33) rfl ?_); refine goesM_ (some 59) rfl rfl Try.func33 #[.agg #[.slice Ao11 t485.length co11], .agg #[.slice Ao14 t488.length co14, .int .i64 t491]] ?_; (with_reducible refine (spec_MemOk.calls kj6 _ _ t485 _ _ t488 t491 true _ ?side1 ?side2 ?side3 ?side4 A46.out).mono ?_); (case side1 => repeat (first | exact (Kd.S_reads' HO_495000.out).2.2 | (with_reducible refine Kd.C_alloc ?_ _) | (with_reducible refine Kd.C_drewN ?_ _) | (with_reducible refine Kd.C_drew ?_))); (case side2 => exact (Kd.S_reads' HO_495000.out).2.1); (case side3 => repeat (first | exact (Kd.Q_reads' HO_496000.out).2.2 | (with_reducible refine Kd.C_alloc ?_ _) | (with_reducible refine Kd.C_drewN ?_ _) | (with_reducible refine Kd.C_drew ?_))); (case side4 => exact (Kd.Q_reads' HO_496000.out).2.1); rintro e w63 ⟨rfl, hb⟩; refine ⟨_, rfl, ?_⟩; have n0_ := Aside0.mk (Kd.S_below (ks HO_495000.out) hb); have n1_ := Aside0.mk (Kd.Q_below (kq HO_496000.out) hb); have n2_ := Aside0.mk (Kd.Q_below (kq HO_501000.out) hb); have n3_ := Aside0.mk (Kd.Q_below (kq HO_506000.out) hb); have n4_ := Aside0.mk (blk_below (g := gb494) (o := .cells #[.slice Ao11 t485.length co11] 29 (0, 0)) (kb BK494.out) hb); have n5_ := Aside0.mk (blk_below (g := gb495) (o := .cells #[.slice Ao14 t488.length co14, .int .i64 t491] 32 (0, 0)) (kb BK495.out) hb); have n6_ := Aside0.mk (blk_below (g := gb500) (o := .cells #[.slice Ao18 t496.length co18, .int .i64 t499] 32 (0, 0)) (kb BK500.out) hb); have n7_ := Aside0.mk (blk_below (g := gb505) (o := .cells #[.slice Ao26 t501.length co26, .int .i64 t504] 32 (0, 0)) (kb BK505.out) hb); have n8_ := Aside0.mk (below_step (bw HB.out) hb); clear HO_495000; clear HO_496000; clear HO_501000; clear HO_506000; clear BK494; clear BK495; clear BK500; clear BK505; clear HB; have HO_495000 := n0_; have HO_496000 := n1_; have HO_501000 := n2_; have HO_506000 := n3_; have BK494 := n4_; have BK495 := n5_; have BK500 := n6_; have BK505 := n7_; have HB := n8_; clear n0_ n1_ n2_ n3_ n4_ n5_ n6_ n7_ n8_; (try clear hb); (try clear hb2); (try clear hk); (try clear hi)))
           have n0_ := Aside0.mk (Kd.S_drew HO_495000.out)
           have n1_ := Aside0.mk (Kd.Q_drew HO_496000.out)
           have n2_ := Aside0.mk (Kd.Q_drew HO_501000.out)
           have n3_ := Aside0.mk (Kd.Q_drew HO_506000.out)
           have n4_ := Aside0.mk (blk_drew BK494.out)
           have n5_ := Aside0.mk (blk_drew BK495.out)
           have n6_ := Aside0.mk (blk_drew BK500.out)
           have n7_ := Aside0.mk (blk_drew BK505.out)
           have n8_ := Aside0.mk (below_drew1 HB.out)
           clear HO_495000; clear HO_496000; clear HO_501000; clear HO_506000; clear BK494; clear BK495; clear BK500; clear BK505; clear HB; have HO_495000 := n0_; have HO_496000 := n1_; have HO_501000 := n2_; have HO_506000 := n3_; have BK494 := n4_; have BK495 := n5_; have BK500 := n6_; have BK505 := n7_; have HB := n8_; clear n0_ n1_ n2_ n3_ n4_ n5_ n6_ n7_ n8_
           have p515 : 0 ≤ (t510 : Int) := dt
           have q515 : t510 < (t496.length : Int) := dt
           obtain ⟨ad515, e515, hx515_0⟩ := Kd.at_int (Kd.Q_reads' HO_501000.out).2.2 t510 p515 q515
           cases e515
           replace p515 := eq_true p515
           replace q515 := eq_true q515
           refine start_ (n := 25) (S := fun w' => w'.cell? ⟨gb494, 0, none⟩ = some (.slice Ao11 t485.length co11) ∧ w'.cell? ⟨gb500, 0, none⟩ = some (.slice (some ad515) t496.length co18) ∧ w'.cell? ⟨gb500, 1, none⟩ = some (.int .i64 t499) ∧ w'.cell? ⟨gb495, 0, none⟩ = some (.slice Ao14 t488.length co14) ∧ w'.cell? ⟨gb495, 1, none⟩ = some (.int .i64 t491) ∧ w'.cell? (ad515.add (t510).toNat) = some (.int .i64 (rd t496 t510))) (ds := []) #[false, false, false, false, false, false, false, false, false, false, false, false, false, false, false, false, false, false, false, false, false, false, false, false, false] (by kernel_rfl) rfl rfl ⟨(blk_cell BK494.out 0).trans rfl, (blk_cell BK500.out 0).trans rfl, (blk_cell BK500.out 1).trans rfl, (blk_cell BK495.out 0).trans rfl, (blk_cell BK495.out 1).trans rfl, hx515_0⟩ (fun hHeld => ?_); refine with_tabW laws_FnMemory.tab13 laws_FnMemory.bits13 (fun HT_ HW_ => ?_)
           generalize w63.drew = w64 at HO_495000 HO_496000 HO_501000 HO_506000 BK494 BK495 BK500 BK505 HB hx515_0 hHeld ⊢
           refine pure_ (i := 2) (N := some 78) (v := ?_) (a' := ?_) #[false, false, true, false, false, false, false, false, false, false, false, false, false, false, false, false, false, false, false, false, false, false, false, false, false] rfl rfl (any_of HT_.out (by kernel_rfl)) (fun _ _ _ h => h) (Or.inl ⟨by rfl, ?_⟩) ?_ ?_
           rotate_left
           ·intro w'
            go_simp
            with_reducible rfl
           rotate_left
           ·simp only [Act.put, List.setIfInBounds_toArray, List.set_cons_zero, List.set_cons_succ, i64_w, i32_w]
            rfl
           refine pure_ (i := 4) (N := some 80) (v := ?_) (a' := ?_) #[false, false, true, false, true, false, false, false, false, false, false, false, false, false, false, false, false, false, false, false, false, false, false, false, false] rfl rfl (any_of HT_.out (by kernel_rfl)) (fun _ _ _ h => h) (Or.inl ⟨by rfl, ?_⟩) ?_ ?_
           rotate_left
           ·intro w'
            go_simp
            with_reducible rfl
           rotate_left
           ·simp only [Act.put, List.setIfInBounds_toArray, List.set_cons_zero, List.set_cons_succ, i64_w, i32_w]
            rfl
           refine take_ (i := 0) (N := some 76) (v := ?_) (a' := ?_) #[true, false, true, false, true, false, false, false, false, false, false, false, false, false, false, false, false, false, false, false, false, false, false, false, false] rfl rfl (take_ofW HT_.out HW_.out (by kernel_rfl)) (fun _ _ _ h => h) (Or.inl ⟨by rfl, ?_⟩) hHeld ?_ ?_
           rotate_left
           ·rintro w' ⟨s0, s1, s2, s3, s4, s5⟩
            go_simp
            with_reducible rfl
           rotate_left
           ·simp only [Act.put, List.setIfInBounds_toArray, List.set_cons_zero, List.set_cons_succ, i64_w, i32_w]
            rfl
           refine take_ (i := 1) (N := some 77) (v := ?_) (a' := ?_) #[true, true, true, false, true, false, false, false, false, false, false, false, false, false, false, false, false, false, false, false, false, false, false, false, false] rfl rfl (take_ofW HT_.out HW_.out (by kernel_rfl)) (fun _ _ _ h => h) (Or.inl ⟨by rfl, ?_⟩) hHeld ?_ ?_
           rotate_left
           ·rintro w' ⟨s0, s1, s2, s3, s4, s5⟩
            go_simp
            with_reducible rfl
           rotate_left
           ·simp only [Act.put, List.setIfInBounds_toArray, List.set_cons_zero, List.set_cons_succ, i64_w, i32_w]
            rfl
           refine one_ (i := 3) (N := some 79) #[true, true, true, true, true, false, false, false, false, false, false, false, false, false, false, false, false, false, false, false, false, false, false, false, false] rfl rfl (one_of HT_.out (by kernel_rfl)) (by decide) (fun K hK => ?_)
           refine goes_ Try.func14 (by kernel_rfl) rfl #[.agg #[.slice Ao11 t485.length co11], .agg #[.slice (some ad515) t496.length co18, .int .i64 t499], .int .i64 t492] (by rfl) rfl rfl (by (try simp only [List.map_toArray, List.map_cons, List.map_nil]); first | done | rfl | (simp only [List.length_drop, List.length_take]; rfl)) ?_
           with_reducible refine (impl_Peek.calls kj6 _ _ t485 _ _ t496 t499 t492 t513 _ ?side1 ?side2 ?side3 ?side4 A49.out).mono ?_
           (case side1 => repeat (first | exact (Kd.S_reads' HO_495000.out).2.2 | (with_reducible refine Kd.C_alloc ?_ _) | (with_reducible refine Kd.C_drewN ?_ _) | (with_reducible refine Kd.C_drew ?_)))
           (case side2 => exact (Kd.S_reads' HO_495000.out).2.1)
           (case side3 => repeat (first | exact (Kd.Q_reads' HO_501000.out).2.2 | (with_reducible refine Kd.C_alloc ?_ _) | (with_reducible refine Kd.C_drewN ?_ _) | (with_reducible refine Kd.C_drew ?_)))
           (case side4 => exact (Kd.Q_reads' HO_501000.out).2.1)
           rintro e w65 ⟨rfl, hb⟩
           have HS5_ := (hb.cell (World.block_lt_of_cell? _ _ (hHeld.2.2.2.2.2))).trans (hHeld.2.2.2.2.2)
           refine ⟨_, rfl, ?_⟩
           have n0_ := Aside0.mk (Kd.S_below (ks HO_495000.out) hb)
           have n1_ := Aside0.mk (Kd.Q_below (kq HO_496000.out) hb)
           have n2_ := Aside0.mk (Kd.Q_below (kq HO_501000.out) hb)
           have n3_ := Aside0.mk (Kd.Q_below (kq HO_506000.out) hb)
           have n4_ := Aside0.mk (blk_below (g := gb494) (o := .cells #[.slice Ao11 t485.length co11] 29 (0, 0)) (kb BK494.out) hb)
           have n5_ := Aside0.mk (blk_below (g := gb495) (o := .cells #[.slice Ao14 t488.length co14, .int .i64 t491] 32 (0, 0)) (kb BK495.out) hb)
           have n6_ := Aside0.mk (blk_below (g := gb500) (o := .cells #[.slice (some ad515) t496.length co18, .int .i64 t499] 32 (0, 0)) (kb BK500.out) hb)
           have n7_ := Aside0.mk (blk_below (g := gb505) (o := .cells #[.slice Ao26 t501.length co26, .int .i64 t504] 32 (0, 0)) (kb BK505.out) hb)
           have n8_ := Aside0.mk (below_step (bw HB.out) hb)
           clear HO_495000; clear HO_496000; clear HO_501000; clear HO_506000; clear BK494; clear BK495; clear BK500; clear BK505; clear HB; have HO_495000 := n0_; have HO_496000 := n1_; have HO_501000 := n2_; have HO_506000 := n3_; have BK494 := n4_; have BK495 := n5_; have BK500 := n6_; have BK505 := n7_; have HB := n8_; clear n0_ n1_ n2_ n3_ n4_ n5_ n6_ n7_ n8_; (try clear hb); (try clear hb2); (try clear hk); (try clear hi)
           refine hK.out _ _ ⟨(blk_cell BK494.out 0).trans rfl, (blk_cell BK500.out 0).trans rfl, (blk_cell BK500.out 1).trans rfl, (blk_cell BK495.out 0).trans rfl, (blk_cell BK495.out 1).trans rfl, HS5_⟩ (fun hHeld => ?_)
           clear hK K
           refine norm_ (a' := ?_) ?_ ?_
           rotate_left
           ·show Act.put _ (some 79) _ = _
            simp only [Act.put, List.setIfInBounds_toArray, List.set_cons_zero, List.set_cons_succ, i64_w, i32_w]
            rfl
           refine one_ (i := 5) (N := some 81) #[true, true, true, true, true, true, false, false, false, false, false, false, false, false, false, false, false, false, false, false, false, false, false, false, false] rfl rfl (one_of HT_.out (by kernel_rfl)) (by decide) (fun K hK => ?_)
           refine goes_ Try.func34 (by kernel_rfl) rfl #[.int .i64 t493] (by rfl) rfl rfl (by (try simp only [List.map_toArray, List.map_cons, List.map_nil]); first | done | rfl | (simp only [List.length_drop, List.length_take]; rfl)) ?_
           with_reducible refine (impl_Byte.calls t493 t514 _ A50.out).mono ?_
           rintro e w' ⟨rfl, ⟨nd, rfl⟩⟩
           refine ⟨_, rfl, ?_⟩
           refine hK.out _ _ ⟨(blk_cell BK494.out 0).trans rfl, (blk_cell BK500.out 0).trans rfl, (blk_cell BK500.out 1).trans rfl, (blk_cell BK495.out 0).trans rfl, (blk_cell BK495.out 1).trans rfl, hHeld.2.2.2.2.2⟩ (fun hHeld => ?_)
           clear hK K
           refine norm_ (a' := ?_) ?_ ?_
           rotate_left
           ·show Act.put _ (some 81) _ = _
            simp only [Act.put, List.setIfInBounds_toArray, List.set_cons_zero, List.set_cons_succ, i64_w, i32_w]
            rfl
           refine pure_ (i := 6) (N := some 82) (v := ?_) (a' := ?_) #[true, true, true, true, true, true, true, false, false, false, false, false, false, false, false, false, false, false, false, false, false, false, false, false, false] rfl rfl (any_of HT_.out (by kernel_rfl)) (fun _ _ _ h => h) (Or.inl ⟨by rfl, ?_⟩) ?_ ?_
           rotate_left
           ·intro w'
            go_simp
            with_reducible rfl
           rotate_left
           ·simp only [Act.put, List.setIfInBounds_toArray, List.set_cons_zero, List.set_cons_succ, i64_w, i32_w]
            rfl
           refine pure_ (i := 7) (N := some 83) (v := ?_) (a' := ?_) #[true, true, true, true, true, true, true, true, false, false, false, false, false, false, false, false, false, false, false, false, false, false, false, false, false] rfl rfl (any_of HT_.out (by kernel_rfl)) (fun _ _ _ h => h) (Or.inl ⟨by rfl, ?_⟩) ?_ ?_
           rotate_left
           ·intro w'
            go_simp
            with_reducible rfl
           rotate_left
           ·simp only [Act.put, List.setIfInBounds_toArray, List.set_cons_zero, List.set_cons_succ, i64_w, i32_w]
            rfl
           refine pure_ (i := 8) (N := some 84) (v := ?_) (a' := ?_) #[true, true, true, true, true, true, true, true, true, false, false, false, false, false, false, false, false, false, false, false, false, false, false, false, false] rfl rfl (any_of HT_.out (by kernel_rfl)) (fun _ _ _ h => h) (Or.inl ⟨by rfl, ?_⟩) ?_ ?_
           rotate_left
           ·intro w'
            go_simp
            with_reducible rfl
           rotate_left
           ·simp only [Act.put, List.setIfInBounds_toArray, List.set_cons_zero, List.set_cons_succ, i64_w, i32_w]
            rfl
           refine pure_ (i := 10) (N := some 86) (v := ?_) (a' := ?_) #[true, true, true, true, true, true, true, true, true, false, true, false, false, false, false, false, false, false, false, false, false, false, false, false, false] rfl rfl (any_of HT_.out (by kernel_rfl)) (fun _ _ _ h => h) (Or.inl ⟨by rfl, ?_⟩) ?_ ?_
           rotate_left
           ·intro w'
            go_simp
            with_reducible rfl
           rotate_left
           ·simp only [Act.put, List.setIfInBounds_toArray, List.set_cons_zero, List.set_cons_succ, i64_w, i32_w]
            rfl
           refine pure_ (i := 13) (N := some 89) (v := ?_) (a' := ?_) #[true, true, true, true, true, true, true, true, true, false, true, false, false, true, false, false, false, false, false, false, false, false, false, false, false] rfl rfl (any_of HT_.out (by kernel_rfl)) (fun _ _ _ h => h) (Or.inl ⟨by rfl, ?_⟩) ?_ ?_
           rotate_left
           ·intro w'
            go_simp
            with_reducible rfl
           rotate_left
           ·simp only [Act.put, List.setIfInBounds_toArray, List.set_cons_zero, List.set_cons_succ, i64_w, i32_w]
            rfl
           refine take_ (i := 9) (N := some 85) (v := ?_) (a' := ?_) #[true, true, true, true, true, true, true, true, true, true, true, false, false, true, false, false, false, false, false, false, false, false, false, false, false] rfl rfl (take_ofW HT_.out HW_.out (by kernel_rfl)) (fun _ _ _ h => h) (Or.inl ⟨by rfl, ?_⟩) hHeld ?_ ?_
           rotate_left
           ·rintro w' ⟨s0, s1, s2, s3, s4, s5⟩
            go_simp
            with_reducible rfl
           rotate_left
           ·simp only [Act.put, List.setIfInBounds_toArray, List.set_cons_zero, List.set_cons_succ, i64_w, i32_w]
            rfl
           refine pure_ (i := 11) (N := some 87) (v := ?_) (a' := ?_) #[true, true, true, true, true, true, true, true, true, true, true, true, false, true, false, false, false, false, false, false, false, false, false, false, false] rfl rfl (any_of HT_.out (by kernel_rfl)) (fun _ _ _ h => h) (Or.inl ⟨by rfl, ?_⟩) ?_ ?_
           rotate_left
           ·intro w'
            go_simp
            with_reducible rfl
           rotate_left
           ·simp only [Act.put, List.setIfInBounds_toArray, List.set_cons_zero, List.set_cons_succ, i64_w, i32_w]
            rfl
           refine take_ (i := 12) (N := some 88) (v := ?_) (a' := ?_) #[true, true, true, true, true, true, true, true, true, true, true, true, true, true, false, false, false, false, false, false, false, false, false, false, false] rfl rfl (take_ofW HT_.out HW_.out (by kernel_rfl)) (fun _ _ _ h => h) (Or.inl ⟨by rfl, ?_⟩) hHeld ?_ ?_
           rotate_left
           ·rintro w' ⟨s0, s1, s2, s3, s4, s5⟩
            go_simp
            with_reducible rfl
           rotate_left
           ·simp only [Act.put, List.setIfInBounds_toArray, List.set_cons_zero, List.set_cons_succ, i64_w, i32_w]
            rfl
           refine one_ (i := 14) (N := some 90) #[true, true, true, true, true, true, true, true, true, true, true, true, true, true, true, false, false, false, false, false, false, false, false, false, false] rfl rfl (one_of HT_.out (by kernel_rfl)) (by decide) (fun K hK => ?_)
           refine goes_ Try.func34 (by kernel_rfl) rfl #[.int .i64 t493] (by rfl) rfl rfl (by (try simp only [List.map_toArray, List.map_cons, List.map_nil]); first | done | rfl | (simp only [List.length_drop, List.length_take]; rfl)) ?_
           with_reducible refine (impl_Byte.calls t493 t516 _ A54.out).mono ?_
           rintro e w' ⟨rfl, ⟨nd, rfl⟩⟩
           refine ⟨_, rfl, ?_⟩
           refine hK.out _ _ ⟨(blk_cell BK494.out 0).trans rfl, (blk_cell BK500.out 0).trans rfl, (blk_cell BK500.out 1).trans rfl, (blk_cell BK495.out 0).trans rfl, (blk_cell BK495.out 1).trans rfl, hHeld.2.2.2.2.2⟩ (fun hHeld => ?_)
           clear hK K
           refine norm_ (a' := ?_) ?_ ?_
           rotate_left
           ·show Act.put _ (some 90) _ = _
            simp only [Act.put, List.setIfInBounds_toArray, List.set_cons_zero, List.set_cons_succ, i64_w, i32_w]
            rfl
           refine pure_ (i := 15) (N := some 91) (v := ?_) (a' := ?_) #[true, true, true, true, true, true, true, true, true, true, true, true, true, true, true, true, false, false, false, false, false, false, false, false, false] rfl rfl (any_of HT_.out (by kernel_rfl)) (fun _ _ _ h => h) (Or.inl ⟨by rfl, ?_⟩) ?_ ?_
           rotate_left
           ·intro w'
            go_simp
            with_reducible rfl
           rotate_left
           ·simp only [Act.put, List.setIfInBounds_toArray, List.set_cons_zero, List.set_cons_succ, i64_w, i32_w]
            rfl
           refine pure_ (i := 16) (N := some 92) (v := ?_) (a' := ?_) #[true, true, true, true, true, true, true, true, true, true, true, true, true, true, true, true, true, false, false, false, false, false, false, false, false] rfl rfl (any_of HT_.out (by kernel_rfl)) (fun _ _ _ h => h) (Or.inl ⟨by rfl, ?_⟩) ?_ ?_
           rotate_left
           ·intro w'
            go_simp
            with_reducible rfl
           rotate_left
           ·simp only [Act.put, List.setIfInBounds_toArray, List.set_cons_zero, List.set_cons_succ, i64_w, i32_w]
            rfl
           refine pure_ (i := 17) (N := some 93) (v := ?_) (a' := ?_) #[true, true, true, true, true, true, true, true, true, true, true, true, true, true, true, true, true, true, false, false, false, false, false, false, false] rfl rfl (any_of HT_.out (by kernel_rfl)) (fun _ _ _ h => h) (Or.inl ⟨by rfl, ?_⟩) ?_ ?_
           rotate_left
           ·intro w'
            go_simp
            with_reducible rfl
           rotate_left
           ·simp only [Act.put, List.setIfInBounds_toArray, List.set_cons_zero, List.set_cons_succ, i64_w, i32_w]
            rfl
           refine pure_ (i := 18) (N := some 94) (v := ?_) (a' := ?_) #[true, true, true, true, true, true, true, true, true, true, true, true, true, true, true, true, true, true, true, false, false, false, false, false, false] rfl rfl (any_of HT_.out (by kernel_rfl)) (fun _ _ _ h => h) (Or.inl ⟨by rfl, ?_⟩) ?_ ?_
           rotate_left
           ·intro w'
            go_simp
            with_reducible rfl
           rotate_left
           ·simp only [Act.put, List.setIfInBounds_toArray, List.set_cons_zero, List.set_cons_succ, i64_w, i32_w]
            rfl
           refine pure_ (i := 20) (N := some 96) (v := ?_) (a' := ?_) #[true, true, true, true, true, true, true, true, true, true, true, true, true, true, true, true, true, true, true, false, true, false, false, false, false] rfl rfl (any_of HT_.out (by kernel_rfl)) (fun _ _ _ h => h) (Or.inl ⟨by rfl, ?_⟩) ?_ ?_
           rotate_left
           ·intro w'
            go_simp
            with_reducible rfl
           rotate_left
           ·simp only [Act.put, List.setIfInBounds_toArray, List.set_cons_zero, List.set_cons_succ, i64_w, i32_w]
            rfl
           refine take_ (i := 19) (N := some 95) (v := ?_) (a' := ?_) #[true, true, true, true, true, true, true, true, true, true, true, true, true, true, true, true, true, true, true, true, true, false, false, false, false] rfl rfl (take_ofW HT_.out HW_.out (by kernel_rfl)) (fun _ _ _ h => h) (Or.inl ⟨by rfl, ?_⟩) hHeld ?_ ?_
           rotate_left
           ·rintro w' ⟨s0, s1, s2, s3, s4, s5⟩
            go_simp
            with_reducible rfl
           rotate_left
           ·simp only [Act.put, List.setIfInBounds_toArray, List.set_cons_zero, List.set_cons_succ, i64_w, i32_w]
            rfl
           refine take_ (i := 21) (N := some 97) (v := ?_) (a' := ?_) #[true, true, true, true, true, true, true, true, true, true, true, true, true, true, true, true, true, true, true, true, true, true, false, false, false] rfl rfl (take_ofW HT_.out HW_.out (by kernel_rfl)) (fun _ _ _ h => h) (Or.inl ⟨by rfl, ?_⟩) hHeld ?_ ?_
           rotate_left
           ·rintro w' ⟨s0, s1, s2, s3, s4, s5⟩
            go_simp
            with_reducible rfl
           rotate_left
           ·simp only [Act.put, List.setIfInBounds_toArray, List.set_cons_zero, List.set_cons_succ, i64_w, i32_w]
            rfl
           refine pure_ (i := 22) (N := some 98) (v := ?_) (a' := ?_) #[true, true, true, true, true, true, true, true, true, true, true, true, true, true, true, true, true, true, true, true, true, true, true, false, false] rfl rfl (any_of HT_.out (by kernel_rfl)) (fun _ _ _ h => h) (Or.inl ⟨by rfl, ?_⟩) ?_ ?_
           rotate_left
           ·intro w'
            go_simp
            with_reducible rfl
           rotate_left
           ·simp only [Act.put, List.setIfInBounds_toArray, List.set_cons_zero, List.set_cons_succ, i64_w, i32_w]
            rfl
           refine pure_ (i := 23) (N := some 99) (v := ?_) (a' := ?_) #[true, true, true, true, true, true, true, true, true, true, true, true, true, true, true, true, true, true, true, true, true, true, true, true, false] rfl rfl (any_of HT_.out (by kernel_rfl)) (fun _ _ _ h => h) (Or.inl ⟨by rfl, ?_⟩) ?_ ?_
           rotate_left
           ·intro w'
            go_simp
            with_reducible rfl
           rotate_left
           ·simp only [Act.put, List.setIfInBounds_toArray, List.set_cons_zero, List.set_cons_succ, i64_w, i32_w]
            rfl
           refine pure_ (i := 24) (N := some 2) (v := ?_) (a' := ?_) #[true, true, true, true, true, true, true, true, true, true, true, true, true, true, true, true, true, true, true, true, true, true, true, true, true] rfl rfl (any_of HT_.out (by kernel_rfl)) (fun _ _ _ h => h) (Or.inl ⟨by rfl, ?_⟩) ?_ ?_
           rotate_left
           ·intro w'
            go_simp
            with_reducible rfl
           rotate_left
           ·simp only [Act.put, List.setIfInBounds_toArray, List.set_cons_zero, List.set_cons_succ, i64_w, i32_w]
            rfl
           refine done_ (done_of HT_.out (by kernel_rfl)) ?_
           try go_wp2
           go_ret
           exact ⟨rt, bw HB.out⟩
          ·rw [if_neg c55] at H
           have c55b0 : ((rd t496 t510) == t516) = false := beq_eq_false_iff_ne.mpr c55
           have c55b1 : ((rd t496 t510) != t516) = true := bne_iff_ne.mpr c55
           exact absurd ((Option.some.inj H).trans hrt) (by decide)
         ·rw [if_neg c53] at H
          exact absurd H (by simp)
        ·rw [if_neg c52] at H
         exact absurd H (by simp)
       ·rw [if_neg c51] at H
        have c51b0 : (t513 == t514) = false := beq_eq_false_iff_ne.mpr c51
        have c51b1 : (t513 != t514) = true := bne_iff_ne.mpr c51
        exact absurd ((Option.some.inj H).trans hrt) (by decide)
      ·rw [if_neg c48] at H
       have c48b0 : (t509 == 1) = false := beq_eq_false_iff_ne.mpr c48
       have c48b1 : (t509 != 1) = true := bne_iff_ne.mpr c48
       have HC86 := Aside0.mk H
       clear H
       go_upto_if 100 with (first | ((with_reducible refine gate_callee (f := 11) rfl ?_); refine goesM_ (some 54) rfl rfl Try.func11 #[.int .i64 t492] ?_; (with_reducible refine (impl_Region.calls t492 t509 t510 _ A45.out).mono ?_); rintro e w' ⟨rfl, ⟨nd, rfl⟩⟩; refine ⟨_, rfl, ?_⟩; have hnb87 := NB494_495.out; have hnc87 := NB495_494.out; have hnb88 := NB494_500.out; have hnc88 := NB500_494.out; have hnb89 := NB494_505.out; have hnc89 := NB505_494.out; have hcz90_0 : wc.cell? ⟨gb494, 0, none⟩ = some (.slice Ao11 t485.length co11) := (blk_cell BK494.out 0).trans rfl; have hfz90_0 := blk_frozen BK494.out 0; have hnb91 := NB495_500.out; have hnc91 := NB500_495.out; have hnb92 := NB495_505.out; have hnc92 := NB505_495.out; have hcz93_0 : wc.cell? ⟨gb495, 0, none⟩ = some (.slice Ao14 t488.length co14) := (blk_cell BK495.out 0).trans rfl; have hcz93_1 : wc.cell? ⟨gb495, 1, none⟩ = some (.int .i64 t491) := (blk_cell BK495.out 1).trans rfl; have hfz93_0 := blk_frozen BK495.out 0; have hfz93_1 := blk_frozen BK495.out 1) | ((with_reducible refine gate_callee (f := 33) rfl ?_); refine goesM_ (some 59) rfl rfl Try.func33 #[.agg #[.slice Ao11 t485.length co11], .agg #[.slice Ao14 t488.length co14, .int .i64 t491]] ?_; (with_reducible refine (spec_MemOk.calls kj6 _ _ t485 _ _ t488 t491 true _ ?side1 ?side2 ?side3 ?side4 A46.out).mono ?_); (case side1 => repeat (first | exact (Kd.S_reads' HO_495000.out).2.2 | (with_reducible refine Kd.C_alloc ?_ _) | (with_reducible refine Kd.C_drewN ?_ _) | (with_reducible refine Kd.C_drew ?_))); (case side2 => exact (Kd.S_reads' HO_495000.out).2.1); (case side3 => repeat (first | exact (Kd.Q_reads' HO_496000.out).2.2 | (with_reducible refine Kd.C_alloc ?_ _) | (with_reducible refine Kd.C_drewN ?_ _) | (with_reducible refine Kd.C_drew ?_))); (case side4 => exact (Kd.Q_reads' HO_496000.out).2.1); rintro e w94 ⟨rfl, hb⟩; refine ⟨_, rfl, ?_⟩; have n0_ := Aside0.mk (Kd.S_below (ks HO_495000.out) hb); have n1_ := Aside0.mk (Kd.Q_below (kq HO_496000.out) hb); have n2_ := Aside0.mk (Kd.Q_below (kq HO_501000.out) hb); have n3_ := Aside0.mk (Kd.Q_below (kq HO_506000.out) hb); have n4_ := Aside0.mk (blk_below (g := gb494) (o := .cells #[.slice Ao11 t485.length co11] 29 (0, 0)) (kb BK494.out) hb); have n5_ := Aside0.mk (blk_below (g := gb495) (o := .cells #[.slice Ao14 t488.length co14, .int .i64 t491] 32 (0, 0)) (kb BK495.out) hb); have n6_ := Aside0.mk (blk_below (g := gb500) (o := .cells #[.slice Ao18 t496.length co18, .int .i64 t499] 32 (0, 0)) (kb BK500.out) hb); have n7_ := Aside0.mk (blk_below (g := gb505) (o := .cells #[.slice Ao26 t501.length co26, .int .i64 t504] 32 (0, 0)) (kb BK505.out) hb); have n8_ := Aside0.mk (below_step (bw HB.out) hb); clear HO_495000; clear HO_496000; clear HO_501000; clear HO_506000; clear BK494; clear BK495; clear BK500; clear BK505; clear HB; have HO_495000 := n0_; have HO_496000 := n1_; have HO_501000 := n2_; have HO_506000 := n3_; have BK494 := n4_; have BK495 := n5_; have BK500 := n6_; have BK505 := n7_; have HB := n8_; clear n0_ n1_ n2_ n3_ n4_ n5_ n6_ n7_ n8_; (try clear hb); (try clear hb2); (try clear hk); (try clear hi)))
       (try simp only [Act.put, List.setIfInBounds_toArray, List.set_cons_zero, List.set_cons_succ])
       go_cut [100] (fun v100 wc => ∃ (kq : Nat) (x100_85 : Bool), v100 = .bool x100_85 ∧ Aside0 (laws_FnMemory.j1 kq t492 t493 t510 x100_85 t485 t488 t491 t496 t499 = some r) ∧ Aside0 (kq ≤ kj6) ∧ Aside0 (Kd.S (cutK 3 (Kd.int .i64)) 30 wc w.heap.size (fun k_ => some k_ ≠ ((.slice Ao14 t488.length co14) : Value).ownBlock ∧ some k_ ≠ ((.slice Ao18 t496.length co18) : Value).ownBlock ∧ some k_ ≠ ((.slice Ao26 t501.length co26) : Value).ownBlock) (.slice Ao11 t485.length co11) t485) ∧ Aside0 (Kd.Q (Kd.int .i64) 3 wc w.heap.size (fun k_ => some k_ ≠ ((.slice Ao18 t496.length co18) : Value).ownBlock ∧ some k_ ≠ ((.slice Ao26 t501.length co26) : Value).ownBlock) (.slice Ao14 t488.length co14) t488) ∧ Aside0 (Kd.Q (Kd.int .i64) 3 wc w.heap.size (fun k_ => some k_ ≠ ((.slice Ao14 t488.length co14) : Value).ownBlock ∧ some k_ ≠ ((.slice Ao26 t501.length co26) : Value).ownBlock) (.slice Ao18 t496.length co18) t496) ∧ Aside0 (Kd.Q (Kd.int .i64) 3 wc w.heap.size (fun k_ => some k_ ≠ ((.slice Ao14 t488.length co14) : Value).ownBlock ∧ some k_ ≠ ((.slice Ao18 t496.length co18) : Value).ownBlock) (.slice Ao26 t501.length co26) t501) ∧ Aside0 (wc.heap[gb494]? = some (.cells #[(.slice Ao11 t485.length co11)] 29 (0, 0))) ∧ Aside0 (wc.heap[gb495]? = some (.cells #[(.slice Ao14 t488.length co14), .int .i64 t491] 32 (0, 0))) ∧ Aside0 (wc.heap[gb500]? = some (.cells #[(.slice Ao18 t496.length co18), .int .i64 t499] 32 (0, 0))) ∧ Aside0 (wc.heap[gb505]? = some (.cells #[(.slice Ao26 t501.length co26), .int .i64 t504] 32 (0, 0))) ∧ Aside0 (Below w.heap.size w wc))
       case first =>
        have H := HC86.out
        clear HC86
        by_cases c95 : t509 = 5
        ·rw [if_pos c95] at H
         have c95b0 : (t509 == 5) = true := beq_iff_eq.mpr c95
         have c95b1 : (t509 != 5) = false := bne_eq_false_iff_eq.mpr c95
         clear c95
         (first | rw [c95b0] | (simp only [i64_w, i32_w]; rw [c95b0]) | skip)
         have H' := Aside0.mk H
         clear H
         go_wp2
         go_meet
         case rel => exact ⟨_, ((t509 == 5)), (by first | rfl | (simp; done) | (simp [*]; done)), H', ⟨by have := HJ6.out; first | omega | exact Nat.le_refl _⟩, ⟨ks HO_495000.out⟩, ⟨kq HO_496000.out⟩, ⟨kq HO_501000.out⟩, ⟨kq HO_506000.out⟩, ⟨kb BK494.out⟩, ⟨kb BK495.out⟩, ⟨kb BK500.out⟩, ⟨kb BK505.out⟩, ⟨bw HB.out⟩⟩
        ·rw [if_neg c95] at H
         have c95b0 : (t509 == 5) = false := beq_eq_false_iff_ne.mpr c95
         have c95b1 : (t509 != 5) = true := bne_iff_ne.mpr c95
         (first | rw [c95b0] | (simp only [i64_w, i32_w]; rw [c95b0]) | skip)
         have H' := Aside0.mk H
         clear H
         go_wp2
         go_meet
         case rel => exact ⟨_, ((t509 == 6)), (by first | rfl | (simp; done) | (simp [*]; done)), H', ⟨by have := HJ6.out; first | omega | exact Nat.le_refl _⟩, ⟨ks HO_495000.out⟩, ⟨kq HO_496000.out⟩, ⟨kq HO_501000.out⟩, ⟨kq HO_506000.out⟩, ⟨kb BK494.out⟩, ⟨kb BK495.out⟩, ⟨kb BK500.out⟩, ⟨kb BK505.out⟩, ⟨bw HB.out⟩⟩
       case rest =>
        clear HC86; (try clear c1); (try clear p2); (try clear c3); (try clear c4); (try clear c5); (try clear p5); (try clear q5); (try clear hx5); (try clear c6); (try clear c7); (try clear c8); (try clear c9); (try clear c11); (try clear c14); (try clear c33); (try clear c34); (try clear c48); (try clear c48b0); (try clear c48b1); (try clear c51); (try clear c51b0); (try clear c51b1); (try clear p51); (try clear q51); (try clear hx51); (try clear c52); (try clear c53); (try clear c55); (try clear c55b0); (try clear c55b1); (try clear c66); (try clear c67); (try clear c68); (try clear c70); (try clear c71); (try clear c76); (try clear c77); (try clear c78); (try clear c80); (try clear c81); (try clear c87); (try clear c88); (try clear c89); (try clear c91); (try clear c92); (try clear c95); (try clear c95b0); (try clear c95b1); (try clear hcz69_0); (try clear hcz72_0); (try clear hcz72_1); (try clear hcz79_0); (try clear hcz82_0); (try clear hcz82_1); (try clear hcz90_0); (try clear hcz93_0); (try clear hcz93_1); (try clear hfz69_0); (try clear hfz72_0); (try clear hfz72_1); (try clear hfz79_0); (try clear hfz82_0); (try clear hfz82_1); (try clear hfz90_0); (try clear hfz93_0); (try clear hfz93_1); (try clear hx515_0); (try clear p515); (try clear q515)
        obtain ⟨kq, x100_85, rfl, HA, HJ85, HO_495000, HO_496000, HO_501000, HO_506000, BK494, BK495, BK500, BK505, HB⟩ := hcut
        cases kq with
        | zero => exact absurd HA.out (by simp [laws_FnMemory.j1])
        | succ kj85 =>
         have H := HA.out
         clear HA
         simp only [laws_FnMemory.j1] at H
         by_cases c96 : x100_85 = true
         ·subst c96
          have H1 : ((laws_sameInts.f kj85 t496 t488).bind fun t517 => (if t517 = true then ((impl_Peek.f kj85 t485 t496 t499 (wrap64 (32768 + t510))).bind fun t518 => ((impl_Byte.f t493).bind fun t519 => ((impl_BankOf.f kj85 t485 t519).bind fun t520 => (if 0 ≤ t510 then (if t510 < (t520.length : Int) then (some (t518 == (rd t520 t510))) else (none)) else (none))))) else (some false))) = some r := by rw [if_pos rfl] at H; exact H
          clear H
          have H := H1
          clear H1
          replace H := Option.bind_eq_some_iff.mp H
          obtain ⟨t517, A970, H⟩ := H
          replace H : (if t517 = true then ((impl_Peek.f kj85 t485 t496 t499 (wrap64 (32768 + t510))).bind fun t518 => ((impl_Byte.f t493).bind fun t519 => ((impl_BankOf.f kj85 t485 t519).bind fun t520 => (if 0 ≤ t510 then (if t510 < (t520.length : Int) then (some (t518 == (rd t520 t510))) else (none)) else (none))))) else (some false)) = some r := H
          have A97 := Aside0.mk A970
          clear A970
          by_cases c98 : t517 = true
          ·subst c98
           have H1 : ((impl_Peek.f kj85 t485 t496 t499 (wrap64 (32768 + t510))).bind fun t518 => ((impl_Byte.f t493).bind fun t519 => ((impl_BankOf.f kj85 t485 t519).bind fun t520 => (if 0 ≤ t510 then (if t510 < (t520.length : Int) then (some (t518 == (rd t520 t510))) else (none)) else (none))))) = some r := by rw [if_pos rfl] at H; exact H
           clear H
           have H := H1
           clear H1
           replace H := Option.bind_eq_some_iff.mp H
           obtain ⟨t518, A990, H⟩ := H
           replace H : ((impl_Byte.f t493).bind fun t519 => ((impl_BankOf.f kj85 t485 t519).bind fun t520 => (if 0 ≤ t510 then (if t510 < (t520.length : Int) then (some (t518 == (rd t520 t510))) else (none)) else (none)))) = some r := H
           have A99 := Aside0.mk A990
           clear A990
           replace H := Option.bind_eq_some_iff.mp H
           obtain ⟨t519, A1000, H⟩ := H
           replace H : ((impl_BankOf.f kj85 t485 t519).bind fun t520 => (if 0 ≤ t510 then (if t510 < (t520.length : Int) then (some (t518 == (rd t520 t510))) else (none)) else (none))) = some r := H
           have A100 := Aside0.mk A1000
           clear A1000
           replace H := Option.bind_eq_some_iff.mp H
           obtain ⟨t520, A1010, H⟩ := H
           replace H : (if 0 ≤ t510 then (if t510 < (t520.length : Int) then (some (t518 == (rd t520 t510))) else (none)) else (none)) = some r := H
           have A101 := Aside0.mk A1010
           clear A1010
           by_cases c102 : 0 ≤ t510
           ·rw [if_pos c102] at H
            have c102b0 : decide (0 ≤ t510) = true := decide_eq_true c102
            clear c102
            by_cases c103 : t510 < (t520.length : Int)
            ·rw [if_pos c103] at H
             have c103b0 : decide (t510 < (t520.length : Int)) = true := decide_eq_true c103
             clear c103; clear hrt
             obtain rfl := Option.some.inj H
             try go_wp2
             have n0_ := Aside0.mk (Kd.S_drew HO_495000.out)
             have n1_ := Aside0.mk (Kd.Q_drew HO_496000.out)
             have n2_ := Aside0.mk (Kd.Q_drew HO_501000.out)
             have n3_ := Aside0.mk (Kd.Q_drew HO_506000.out)
             have n4_ := Aside0.mk (blk_drew BK494.out)
             have n5_ := Aside0.mk (blk_drew BK495.out)
             have n6_ := Aside0.mk (blk_drew BK500.out)
             have n7_ := Aside0.mk (blk_drew BK505.out)
             have n8_ := Aside0.mk (below_drew1 HB.out)
             clear HO_495000; clear HO_496000; clear HO_501000; clear HO_506000; clear BK494; clear BK495; clear BK500; clear BK505; clear HB; have HO_495000 := n0_; have HO_496000 := n1_; have HO_501000 := n2_; have HO_506000 := n3_; have BK494 := n4_; have BK495 := n5_; have BK500 := n6_; have BK505 := n7_; have HB := n8_; clear n0_ n1_ n2_ n3_ n4_ n5_ n6_ n7_ n8_
             refine start_ (n := 21) (S := fun w' => w'.cell? ⟨gb500, 0, none⟩ = some (.slice Ao18 t496.length co18) ∧ w'.cell? ⟨gb500, 1, none⟩ = some (.int .i64 t499) ∧ w'.cell? ⟨gb495, 0, none⟩ = some (.slice Ao14 t488.length co14) ∧ w'.cell? ⟨gb495, 1, none⟩ = some (.int .i64 t491) ∧ w'.cell? ⟨gb494, 0, none⟩ = some (.slice Ao11 t485.length co11)) (ds := []) #[false, false, false, false, false, false, false, false, false, false, false, false, false, false, false, false, false, false, false, false, false] (by kernel_rfl) rfl rfl ⟨(blk_cell BK500.out 0).trans rfl, (blk_cell BK500.out 1).trans rfl, (blk_cell BK495.out 0).trans rfl, (blk_cell BK495.out 1).trans rfl, (blk_cell BK494.out 0).trans rfl⟩ (fun hHeld => ?_); refine with_tabW laws_FnMemory.tab16 laws_FnMemory.bits16 (fun HT_ HW_ => ?_)
             generalize wc.drew = w104 at HO_495000 HO_496000 HO_501000 HO_506000 BK494 BK495 BK500 BK505 HB hHeld ⊢
             refine pure_ (i := 0) (N := some 103) (v := ?_) (a' := ?_) #[true, false, false, false, false, false, false, false, false, false, false, false, false, false, false, false, false, false, false, false, false] rfl rfl (any_of HT_.out (by kernel_rfl)) (fun _ _ _ h => h) (Or.inl ⟨by rfl, ?_⟩) ?_ ?_
             rotate_left
             ·intro w'
              go_simp
              with_reducible rfl
             rotate_left
             ·simp only [Act.put, List.setIfInBounds_toArray, List.set_cons_zero, List.set_cons_succ, i64_w, i32_w]
              rfl
             refine pure_ (i := 2) (N := some 105) (v := ?_) (a' := ?_) #[true, false, true, false, false, false, false, false, false, false, false, false, false, false, false, false, false, false, false, false, false] rfl rfl (any_of HT_.out (by kernel_rfl)) (fun _ _ _ h => h) (Or.inl ⟨by rfl, ?_⟩) ?_ ?_
             rotate_left
             ·intro w'
              go_simp
              with_reducible rfl
             rotate_left
             ·simp only [Act.put, List.setIfInBounds_toArray, List.set_cons_zero, List.set_cons_succ, i64_w, i32_w]
              rfl
             refine take_ (i := 1) (N := some 104) (v := ?_) (a' := ?_) #[true, true, true, false, false, false, false, false, false, false, false, false, false, false, false, false, false, false, false, false, false] rfl rfl (take_ofW HT_.out HW_.out (by kernel_rfl)) (fun _ _ _ h => h) (Or.inl ⟨by rfl, ?_⟩) hHeld ?_ ?_
             rotate_left
             ·rintro w' ⟨s0, s1, s2, s3, s4⟩
              go_simp
              with_reducible rfl
             rotate_left
             ·simp only [Act.put, List.setIfInBounds_toArray, List.set_cons_zero, List.set_cons_succ, i64_w, i32_w]
              rfl
             refine take_ (i := 3) (N := some 106) (v := ?_) (a' := ?_) #[true, true, true, true, false, false, false, false, false, false, false, false, false, false, false, false, false, false, false, false, false] rfl rfl (take_ofW HT_.out HW_.out (by kernel_rfl)) (fun _ _ _ h => h) (Or.inl ⟨by rfl, ?_⟩) hHeld ?_ ?_
             rotate_left
             ·rintro w' ⟨s0, s1, s2, s3, s4⟩
              go_simp
              with_reducible rfl
             rotate_left
             ·simp only [Act.put, List.setIfInBounds_toArray, List.set_cons_zero, List.set_cons_succ, i64_w, i32_w]
              rfl
             refine one_ (i := 4) (N := some 107) #[true, true, true, true, true, false, false, false, false, false, false, false, false, false, false, false, false, false, false, false, false] rfl rfl (one_of HT_.out (by kernel_rfl)) (by decide) (fun K hK => ?_)
             refine goes_ Try.func26 (by kernel_rfl) rfl #[.slice Ao18 t496.length co18, .slice Ao14 t488.length co14] (by rfl) rfl rfl (by (try simp only [List.map_toArray, List.map_cons, List.map_nil]); first | done | rfl | (simp only [List.length_drop, List.length_take]; rfl)) ?_
             with_reducible refine (laws_sameInts.calls kj85 _ _ t496 _ _ t488 true _ ?side1 ?side2 ?side3 ?side4 A97.out).mono ?_
             (case side1 => repeat (first | exact (Kd.Q_reads' HO_501000.out).2.2 | (with_reducible refine Kd.C_alloc ?_ _) | (with_reducible refine Kd.C_drewN ?_ _) | (with_reducible refine Kd.C_drew ?_)))
             (case side2 => exact (Kd.Q_reads' HO_501000.out).2.1)
             (case side3 => repeat (first | exact (Kd.Q_reads' HO_496000.out).2.2 | (with_reducible refine Kd.C_alloc ?_ _) | (with_reducible refine Kd.C_drewN ?_ _) | (with_reducible refine Kd.C_drew ?_)))
             (case side4 => exact (Kd.Q_reads' HO_496000.out).2.1)
             rintro e w' ⟨rfl, ⟨nd, rfl⟩⟩
             refine ⟨_, rfl, ?_⟩
             have n0_ := Aside0.mk (Kd.S_drewN HO_495000.out nd)
             have n1_ := Aside0.mk (Kd.Q_drewN HO_496000.out nd)
             have n2_ := Aside0.mk (Kd.Q_drewN HO_501000.out nd)
             have n3_ := Aside0.mk (Kd.Q_drewN HO_506000.out nd)
             have n4_ := Aside0.mk (blk_drewN BK494.out nd)
             have n5_ := Aside0.mk (blk_drewN BK495.out nd)
             have n6_ := Aside0.mk (blk_drewN BK500.out nd)
             have n7_ := Aside0.mk (blk_drewN BK505.out nd)
             have n8_ := Aside0.mk (pw_below_drewN HB.out nd)
             clear HO_495000; clear HO_496000; clear HO_501000; clear HO_506000; clear BK494; clear BK495; clear BK500; clear BK505; clear HB; have HO_495000 := n0_; have HO_496000 := n1_; have HO_501000 := n2_; have HO_506000 := n3_; have BK494 := n4_; have BK495 := n5_; have BK500 := n6_; have BK505 := n7_; have HB := n8_; clear n0_ n1_ n2_ n3_ n4_ n5_ n6_ n7_ n8_
             generalize w104.drewN nd = w104 at HO_495000 HO_496000 HO_501000 HO_506000 BK494 BK495 BK500 BK505 HB ⊢
             refine hK.out _ _ ⟨(blk_cell BK500.out 0).trans rfl, (blk_cell BK500.out 1).trans rfl, (blk_cell BK495.out 0).trans rfl, (blk_cell BK495.out 1).trans rfl, (blk_cell BK494.out 0).trans rfl⟩ (fun hHeld => ?_)
             clear hK K
             refine norm_ (a' := ?_) ?_ ?_
             rotate_left
             ·show Act.put _ (some 107) _ = _
              simp only [Act.put, List.setIfInBounds_toArray, List.set_cons_zero, List.set_cons_succ, i64_w, i32_w]
              rfl
             refine pure_ (i := 5) (N := some 108) (v := ?_) (a' := ?_) #[true, true, true, true, true, true, false, false, false, false, false, false, false, false, false, false, false, false, false, false, false] rfl rfl (any_of HT_.out (by kernel_rfl)) (fun _ _ _ h => h) (Or.inl ⟨by rfl, ?_⟩) ?_ ?_
             rotate_left
             ·intro w'
              go_simp
              with_reducible rfl
             rotate_left
             ·simp only [Act.put, List.setIfInBounds_toArray, List.set_cons_zero, List.set_cons_succ, i64_w, i32_w]
              rfl
             refine pure_ (i := 8) (N := some 111) (v := ?_) (a' := ?_) #[true, true, true, true, true, true, false, false, true, false, false, false, false, false, false, false, false, false, false, false, false] rfl rfl (any_of HT_.out (by kernel_rfl)) (fun _ _ _ h => h) (Or.inl ⟨by rfl, ?_⟩) ?_ ?_
             rotate_left
             ·intro w'
              go_simp
              with_reducible rfl
             rotate_left
             ·simp only [Act.put, List.setIfInBounds_toArray, List.set_cons_zero, List.set_cons_succ, i64_w, i32_w]
              rfl
             refine pure_ (i := 9) (N := some 112) (v := ?_) (a' := ?_) #[true, true, true, true, true, true, false, false, true, true, false, false, false, false, false, false, false, false, false, false, false] rfl rfl (any_of HT_.out (by kernel_rfl)) (fun _ _ _ h => h) (Or.inl ⟨by rfl, ?_⟩) ?_ ?_
             rotate_left
             ·intro w'
              go_simp
              with_reducible rfl
             rotate_left
             ·simp only [Act.put, List.setIfInBounds_toArray, List.set_cons_zero, List.set_cons_succ, i64_w, i32_w]
              rfl
             refine pure_ (i := 12) (N := some 115) (v := ?_) (a' := ?_) #[true, true, true, true, true, true, false, false, true, true, false, false, true, false, false, false, false, false, false, false, false] rfl rfl (any_of HT_.out (by kernel_rfl)) (fun _ _ _ h => h) (Or.inl ⟨by rfl, ?_⟩) ?_ ?_
             rotate_left
             ·intro w'
              go_simp
              with_reducible rfl
             rotate_left
             ·simp only [Act.put, List.setIfInBounds_toArray, List.set_cons_zero, List.set_cons_succ, i64_w, i32_w]
              rfl
             refine pure_ (i := 15) (N := some 118) (v := ?_) (a' := ?_) #[true, true, true, true, true, true, false, false, true, true, false, false, true, false, false, true, false, false, false, false, false] rfl rfl (any_of HT_.out (by kernel_rfl)) (fun _ _ _ h => h) (Or.inl ⟨by rfl, ?_⟩) ?_ ?_
             rotate_left
             ·intro w'
              go_simp
              with_reducible rfl
             rotate_left
             ·simp only [Act.put, List.setIfInBounds_toArray, List.set_cons_zero, List.set_cons_succ, i64_w, i32_w]
              rfl
             refine take_ (i := 6) (N := some 109) (v := ?_) (a' := ?_) #[true, true, true, true, true, true, true, false, true, true, false, false, true, false, false, true, false, false, false, false, false] rfl rfl (take_ofW HT_.out HW_.out (by kernel_rfl)) (fun _ _ _ h => h) (Or.inl ⟨by rfl, ?_⟩) hHeld ?_ ?_
             rotate_left
             ·rintro w' ⟨s0, s1, s2, s3, s4⟩
              go_simp
              with_reducible rfl
             rotate_left
             ·simp only [Act.put, List.setIfInBounds_toArray, List.set_cons_zero, List.set_cons_succ, i64_w, i32_w]
              rfl
             refine take_ (i := 7) (N := some 110) (v := ?_) (a' := ?_) #[true, true, true, true, true, true, true, true, true, true, false, false, true, false, false, true, false, false, false, false, false] rfl rfl (take_ofW HT_.out HW_.out (by kernel_rfl)) (fun _ _ _ h => h) (Or.inl ⟨by rfl, ?_⟩) hHeld ?_ ?_
             rotate_left
             ·rintro w' ⟨s0, s1, s2, s3, s4⟩
              go_simp
              with_reducible rfl
             rotate_left
             ·simp only [Act.put, List.setIfInBounds_toArray, List.set_cons_zero, List.set_cons_succ, i64_w, i32_w]
              rfl
             refine take_ (i := 11) (N := some 114) (v := ?_) (a' := ?_) #[true, true, true, true, true, true, true, true, true, true, false, true, true, false, false, true, false, false, false, false, false] rfl rfl (take_ofW HT_.out HW_.out (by kernel_rfl)) (fun _ _ _ h => h) (Or.inl ⟨by rfl, ?_⟩) hHeld ?_ ?_
             rotate_left
             ·rintro w' ⟨s0, s1, s2, s3, s4⟩
              go_simp
              with_reducible rfl
             rotate_left
             ·simp only [Act.put, List.setIfInBounds_toArray, List.set_cons_zero, List.set_cons_succ, i64_w, i32_w]
              rfl
             refine one_ (i := 10) (N := some 113) #[true, true, true, true, true, true, true, true, true, true, true, true, true, false, false, true, false, false, false, false, false] rfl rfl (one_of HT_.out (by kernel_rfl)) (by decide) (fun K hK => ?_)
             refine goes_ Try.func14 (by kernel_rfl) rfl #[.agg #[.slice Ao11 t485.length co11], .agg #[.slice Ao18 t496.length co18, .int .i64 t499], .int .i64 (wrap64 (32768 + t510))] (by rfl) rfl rfl (by (try simp only [List.map_toArray, List.map_cons, List.map_nil]); first | done | rfl | (simp only [List.length_drop, List.length_take]; rfl)) ?_
             with_reducible refine (impl_Peek.calls kj85 _ _ t485 _ _ t496 t499 (wrap64 (32768 + t510)) t518 _ ?side1 ?side2 ?side3 ?side4 A99.out).mono ?_
             (case side1 => repeat (first | exact (Kd.S_reads' HO_495000.out).2.2 | (with_reducible refine Kd.C_alloc ?_ _) | (with_reducible refine Kd.C_drewN ?_ _) | (with_reducible refine Kd.C_drew ?_)))
             (case side2 => exact (Kd.S_reads' HO_495000.out).2.1)
             (case side3 => repeat (first | exact (Kd.Q_reads' HO_501000.out).2.2 | (with_reducible refine Kd.C_alloc ?_ _) | (with_reducible refine Kd.C_drewN ?_ _) | (with_reducible refine Kd.C_drew ?_)))
             (case side4 => exact (Kd.Q_reads' HO_501000.out).2.1)
             rintro e w105 ⟨rfl, hb⟩
             refine ⟨_, rfl, ?_⟩
             have n0_ := Aside0.mk (Kd.S_below (ks HO_495000.out) hb)
             have n1_ := Aside0.mk (Kd.Q_below (kq HO_496000.out) hb)
             have n2_ := Aside0.mk (Kd.Q_below (kq HO_501000.out) hb)
             have n3_ := Aside0.mk (Kd.Q_below (kq HO_506000.out) hb)
             have n4_ := Aside0.mk (blk_below (g := gb494) (o := .cells #[.slice Ao11 t485.length co11] 29 (0, 0)) (kb BK494.out) hb)
             have n5_ := Aside0.mk (blk_below (g := gb495) (o := .cells #[.slice Ao14 t488.length co14, .int .i64 t491] 32 (0, 0)) (kb BK495.out) hb)
             have n6_ := Aside0.mk (blk_below (g := gb500) (o := .cells #[.slice Ao18 t496.length co18, .int .i64 t499] 32 (0, 0)) (kb BK500.out) hb)
             have n7_ := Aside0.mk (blk_below (g := gb505) (o := .cells #[.slice Ao26 t501.length co26, .int .i64 t504] 32 (0, 0)) (kb BK505.out) hb)
             have n8_ := Aside0.mk (below_step (bw HB.out) hb)
             clear HO_495000; clear HO_496000; clear HO_501000; clear HO_506000; clear BK494; clear BK495; clear BK500; clear BK505; clear HB; have HO_495000 := n0_; have HO_496000 := n1_; have HO_501000 := n2_; have HO_506000 := n3_; have BK494 := n4_; have BK495 := n5_; have BK500 := n6_; have BK505 := n7_; have HB := n8_; clear n0_ n1_ n2_ n3_ n4_ n5_ n6_ n7_ n8_; (try clear hb); (try clear hb2); (try clear hk); (try clear hi)
             refine hK.out _ _ ⟨(blk_cell BK500.out 0).trans rfl, (blk_cell BK500.out 1).trans rfl, (blk_cell BK495.out 0).trans rfl, (blk_cell BK495.out 1).trans rfl, (blk_cell BK494.out 0).trans rfl⟩ (fun hHeld => ?_)
             clear hK K
             refine norm_ (a' := ?_) ?_ ?_
             rotate_left
             ·show Act.put _ (some 113) _ = _
              simp only [Act.put, List.setIfInBounds_toArray, List.set_cons_zero, List.set_cons_succ, i64_w, i32_w]
              rfl
             refine one_ (i := 13) (N := some 116) #[true, true, true, true, true, true, true, true, true, true, true, true, true, true, false, true, false, false, false, false, false] rfl rfl (one_of HT_.out (by kernel_rfl)) (by decide) (fun K hK => ?_)
             refine goes_ Try.func34 (by kernel_rfl) rfl #[.int .i64 t493] (by rfl) rfl rfl (by (try simp only [List.map_toArray, List.map_cons, List.map_nil]); first | done | rfl | (simp only [List.length_drop, List.length_take]; rfl)) ?_
             with_reducible refine (impl_Byte.calls t493 t519 _ A100.out).mono ?_
             rintro e w' ⟨rfl, ⟨nd, rfl⟩⟩
             refine ⟨_, rfl, ?_⟩
             have n0_ := Aside0.mk (Kd.S_drewN HO_495000.out nd)
             have n1_ := Aside0.mk (Kd.Q_drewN HO_496000.out nd)
             have n2_ := Aside0.mk (Kd.Q_drewN HO_501000.out nd)
             have n3_ := Aside0.mk (Kd.Q_drewN HO_506000.out nd)
             have n4_ := Aside0.mk (blk_drewN BK494.out nd)
             have n5_ := Aside0.mk (blk_drewN BK495.out nd)
             have n6_ := Aside0.mk (blk_drewN BK500.out nd)
             have n7_ := Aside0.mk (blk_drewN BK505.out nd)
             have n8_ := Aside0.mk (pw_below_drewN HB.out nd)
             clear HO_495000; clear HO_496000; clear HO_501000; clear HO_506000; clear BK494; clear BK495; clear BK500; clear BK505; clear HB; have HO_495000 := n0_; have HO_496000 := n1_; have HO_501000 := n2_; have HO_506000 := n3_; have BK494 := n4_; have BK495 := n5_; have BK500 := n6_; have BK505 := n7_; have HB := n8_; clear n0_ n1_ n2_ n3_ n4_ n5_ n6_ n7_ n8_
             generalize w105.drewN nd = w105 at HO_495000 HO_496000 HO_501000 HO_506000 BK494 BK495 BK500 BK505 HB ⊢
             refine hK.out _ _ ⟨(blk_cell BK500.out 0).trans rfl, (blk_cell BK500.out 1).trans rfl, (blk_cell BK495.out 0).trans rfl, (blk_cell BK495.out 1).trans rfl, (blk_cell BK494.out 0).trans rfl⟩ (fun hHeld => ?_)
             clear hK K
             refine norm_ (a' := ?_) ?_ ?_
             rotate_left
             ·show Act.put _ (some 116) _ = _
              simp only [Act.put, List.setIfInBounds_toArray, List.set_cons_zero, List.set_cons_succ, i64_w, i32_w]
              rfl
             refine one_ (i := 14) (N := some 117) #[true, true, true, true, true, true, true, true, true, true, true, true, true, true, true, true, false, false, false, false, false] rfl rfl (one_of HT_.out (by kernel_rfl)) (by decide) (fun K hK => ?_)
             refine goes_ Try.func27 (by kernel_rfl) rfl #[.agg #[.slice Ao11 t485.length co11], .int .i64 t519] (by rfl) rfl rfl (by (try simp only [List.map_toArray, List.map_cons, List.map_nil]); first | done | rfl | (simp only [List.length_drop, List.length_take]; rfl)) ?_
             with_reducible refine (impl_BankOf.calls kj85 _ _ t485 t519 t520 _ ?side1 ?side2 A101.out).mono ?_
             (case side1 => repeat (first | exact (Kd.S_reads' HO_495000.out).2.2 | (with_reducible refine Kd.C_alloc ?_ _) | (with_reducible refine Kd.C_drewN ?_ _) | (with_reducible refine Kd.C_drew ?_)))
             (case side2 => exact (Kd.S_reads' HO_495000.out).2.1)
             rintro e w106 ⟨v521, rfl, ho0, hb⟩
             refine ⟨_, rfl, ?_⟩
             have n0_ := Aside0.mk (Kd.S_elder' (ks HO_495000.out) (Kd.R_base ho0) hb)
             have n1_ := Aside0.mk (Kd.Q_elder' (kq HO_496000.out) (Kd.R_base ho0) hb)
             have n2_ := Aside0.mk (Kd.Q_elder' (kq HO_501000.out) (Kd.R_base ho0) hb)
             have n3_ := Aside0.mk (Kd.Q_elder' (kq HO_506000.out) (Kd.R_base ho0) hb)
             have n4_ := Aside0.mk (Kd.R_lower (Kd.R_new' (Kd.R_new' (Kd.R_new' ho0 (Kd.Q_lt (kq HO_496000.out))) (Kd.Q_lt (kq HO_501000.out))) (Kd.Q_lt (kq HO_506000.out))) (below_size (bw HB.out)))
             have n5_ := Aside0.mk (blk_below (g := gb494) (o := .cells #[.slice Ao11 t485.length co11] 29 (0, 0)) (kb BK494.out) hb)
             have n6_ := Aside0.mk (blk_below (g := gb495) (o := .cells #[.slice Ao14 t488.length co14, .int .i64 t491] 32 (0, 0)) (kb BK495.out) hb)
             have n7_ := Aside0.mk (blk_below (g := gb500) (o := .cells #[.slice Ao18 t496.length co18, .int .i64 t499] 32 (0, 0)) (kb BK500.out) hb)
             have n8_ := Aside0.mk (blk_below (g := gb505) (o := .cells #[.slice Ao26 t501.length co26, .int .i64 t504] 32 (0, 0)) (kb BK505.out) hb)
             have n9_ := Aside0.mk (below_step (bw HB.out) hb)
             clear HO_495000; clear HO_496000; clear HO_501000; clear HO_506000; clear BK494; clear BK495; clear BK500; clear BK505; clear HB; have HO_495000 := n0_; have HO_496000 := n1_; have HO_501000 := n2_; have HO_506000 := n3_; have HO522 := n4_; have BK494 := n5_; have BK495 := n6_; have BK500 := n7_; have BK505 := n8_; have HB := n9_; clear n0_ n1_ n2_ n3_ n4_ n5_ n6_ n7_ n8_ n9_; (try clear hb); (try clear hb2); (try clear hk); (try clear hi); (try clear ho0)
             obtain ⟨Ao107, co107, eo107⟩ := Kd.R_slice HO522.out
             (first | subst eo107 | (injection eo107 with f1_ f2_ f3_; have f4_ := f1_.symm; have f5_ := f3_.symm; clear f1_ f2_ f3_; subst f4_; subst f5_))
             have p523 : 0 ≤ (t510 : Int) := dt
             have q523 : t510 < (t520.length : Int) := dt
             obtain ⟨ad523, e523, hx523_0⟩ := Kd.at_int (Kd.R_reads' HO522.out).2.2 t510 p523 q523
             cases e523
             replace p523 := eq_true p523
             replace q523 := eq_true q523
             refine hK.out _ _ ⟨(blk_cell BK500.out 0).trans rfl, (blk_cell BK500.out 1).trans rfl, (blk_cell BK495.out 0).trans rfl, (blk_cell BK495.out 1).trans rfl, (blk_cell BK494.out 0).trans rfl⟩ (fun hHeld => ?_)
             clear hK K
             refine norm_ (a' := ?_) ?_ ?_
             rotate_left
             ·show Act.put _ (some 117) _ = _
              simp only [Act.put, List.setIfInBounds_toArray, List.set_cons_zero, List.set_cons_succ, i64_w, i32_w]
              rfl
             refine pure_ (i := 16) (N := some 119) (v := ?_) (a' := ?_) #[true, true, true, true, true, true, true, true, true, true, true, true, true, true, true, true, true, false, false, false, false] rfl rfl (any_of HT_.out (by kernel_rfl)) (fun _ _ _ h => h) (Or.inl ⟨by rfl, ?_⟩) ?_ ?_
             rotate_left
             ·intro w'
              go_simp
              with_reducible rfl
             rotate_left
             ·simp only [Act.put, List.setIfInBounds_toArray, List.set_cons_zero, List.set_cons_succ, i64_w, i32_w]
              rfl
             refine one_ (i := 17) (N := some 120) #[true, true, true, true, true, true, true, true, true, true, true, true, true, true, true, true, true, true, false, false, false] rfl rfl (one_of HT_.out (by kernel_rfl)) (by decide) (fun K hK => ?_)
             refine value_ (v := .int .i64 (rd t520 t510)) (w1 := w106) (by rfl) rfl ?_ ?_
             ·have hx := hx523_0
              go_simp
             refine hK.out _ _ ⟨(blk_cell BK500.out 0).trans rfl, (blk_cell BK500.out 1).trans rfl, (blk_cell BK495.out 0).trans rfl, (blk_cell BK495.out 1).trans rfl, (blk_cell BK494.out 0).trans rfl⟩ (fun hHeld => ?_)
             clear hK K
             refine norm_ (a' := ?_) ?_ ?_
             rotate_left
             ·show Act.put _ (some 120) _ = _
              simp only [Act.put, List.setIfInBounds_toArray, List.set_cons_zero, List.set_cons_succ, i64_w, i32_w]
              rfl
             refine pure_ (i := 18) (N := some 121) (v := ?_) (a' := ?_) #[true, true, true, true, true, true, true, true, true, true, true, true, true, true, true, true, true, true, true, false, false] rfl rfl (any_of HT_.out (by kernel_rfl)) (fun _ _ _ h => h) (Or.inl ⟨by rfl, ?_⟩) ?_ ?_
             rotate_left
             ·intro w'
              go_simp
              with_reducible rfl
             rotate_left
             ·simp only [Act.put, List.setIfInBounds_toArray, List.set_cons_zero, List.set_cons_succ, i64_w, i32_w]
              rfl
             refine pure_ (i := 19) (N := some 122) (v := ?_) (a' := ?_) #[true, true, true, true, true, true, true, true, true, true, true, true, true, true, true, true, true, true, true, true, false] rfl rfl (any_of HT_.out (by kernel_rfl)) (fun _ _ _ h => h) (Or.inl ⟨by rfl, ?_⟩) ?_ ?_
             rotate_left
             ·intro w'
              go_simp
              with_reducible rfl
             rotate_left
             ·simp only [Act.put, List.setIfInBounds_toArray, List.set_cons_zero, List.set_cons_succ, i64_w, i32_w]
              rfl
             refine pure_ (i := 20) (N := some 2) (v := ?_) (a' := ?_) #[true, true, true, true, true, true, true, true, true, true, true, true, true, true, true, true, true, true, true, true, true] rfl rfl (any_of HT_.out (by kernel_rfl)) (fun _ _ _ h => h) (Or.inl ⟨by rfl, ?_⟩) ?_ ?_
             rotate_left
             ·intro w'
              go_simp
              with_reducible rfl
             rotate_left
             ·simp only [Act.put, List.setIfInBounds_toArray, List.set_cons_zero, List.set_cons_succ, i64_w, i32_w]
              rfl
             refine done_ (done_of HT_.out (by kernel_rfl)) ?_
             try go_wp2
             go_ret
             exact ⟨rt, bw HB.out⟩
            ·rw [if_neg c103] at H
             exact absurd H (by simp)
           ·rw [if_neg c102] at H
            exact absurd H (by simp)
          ·replace c98 := Bool.eq_false_iff.mpr c98
           subst c98
           have H1 : (some false) = some r := by rw [if_neg (show ¬ (false = true) by decide)] at H; exact H
           clear H
           have H := H1
           clear H1
           exact absurd ((Option.some.inj H).trans hrt) (by decide)
         ·replace c96 := Bool.eq_false_iff.mpr c96
          subst c96
          have H1 : (if t499 = t491 then ((laws_sameInts.f kj85 t496 t488).bind fun t524 => (if t524 = true then ((impl_Peek.f kj85 t485 t496 t499 t492).bind fun t525 => (some (t525 == 0))) else (some false))) else (some false)) = some r := by rw [if_neg (show ¬ (false = true) by decide)] at H; exact H
          clear H
          have H := H1
          clear H1
          by_cases c109 : t499 = t491
          ·rw [if_pos c109] at H
           have c109b0 : (t499 == t491) = true := beq_iff_eq.mpr c109
           have c109b1 : (t499 != t491) = false := bne_eq_false_iff_eq.mpr c109
           clear c109
           replace H := Option.bind_eq_some_iff.mp H
           obtain ⟨t524, A1100, H⟩ := H
           replace H : (if t524 = true then ((impl_Peek.f kj85 t485 t496 t499 t492).bind fun t525 => (some (t525 == 0))) else (some false)) = some r := H
           have A110 := Aside0.mk A1100
           clear A1100
           by_cases c111 : t524 = true
           ·subst c111
            have H1 : ((impl_Peek.f kj85 t485 t496 t499 t492).bind fun t525 => (some (t525 == 0))) = some r := by rw [if_pos rfl] at H; exact H
            clear H
            have H := H1
            clear H1
            replace H := Option.bind_eq_some_iff.mp H
            obtain ⟨t525, A1120, H⟩ := H
            replace H : (some (t525 == 0)) = some r := H
            have A112 := Aside0.mk A1120
            clear A1120; clear hrt
            obtain rfl := Option.some.inj H
            have hnb113 := NB500_494.out
            have hnc113 := NB494_500.out
            have hnb114 := NB500_495.out
            have hnc114 := NB495_500.out
            have hnb115 := NB500_505.out
            have hnc115 := NB505_500.out
            have hcz116_0 : wc.cell? ⟨gb500, 0, none⟩ = some (.slice Ao18 t496.length co18) := (blk_cell BK500.out 0).trans rfl
            have hcz116_1 : wc.cell? ⟨gb500, 1, none⟩ = some (.int .i64 t499) := (blk_cell BK500.out 1).trans rfl
            have hfz116_0 := blk_frozen BK500.out 0
            have hfz116_1 := blk_frozen BK500.out 1
            have hnb117 := NB495_494.out
            have hnc117 := NB494_495.out
            have hnb118 := NB495_505.out
            have hnc118 := NB505_495.out
            have hcz119_0 : wc.cell? ⟨gb495, 0, none⟩ = some (.slice Ao14 t488.length co14) := (blk_cell BK495.out 0).trans rfl
            have hcz119_1 : wc.cell? ⟨gb495, 1, none⟩ = some (.int .i64 t491) := (blk_cell BK495.out 1).trans rfl
            have hfz119_0 := blk_frozen BK495.out 0
            have hfz119_1 := blk_frozen BK495.out 1
            go_wp2_with (first | (go_at_call 26; (with_reducible refine (laws_sameInts.calls kj85 _ _ t496 _ _ t488 true _ ?side1 ?side2 ?side3 ?side4 A110.out).mono ?_); (case side1 => repeat (first | exact (Kd.Q_reads' HO_501000.out).2.2 | (with_reducible refine Kd.C_alloc ?_ _) | (with_reducible refine Kd.C_drewN ?_ _) | (with_reducible refine Kd.C_drew ?_))); (case side2 => exact (Kd.Q_reads' HO_501000.out).2.1); (case side3 => repeat (first | exact (Kd.Q_reads' HO_496000.out).2.2 | (with_reducible refine Kd.C_alloc ?_ _) | (with_reducible refine Kd.C_drewN ?_ _) | (with_reducible refine Kd.C_drew ?_))); (case side4 => exact (Kd.Q_reads' HO_496000.out).2.1); rintro e w' ⟨rfl, ⟨nd, rfl⟩⟩; have hnb120 := NB494_505.out; have hnc120 := NB505_494.out; have hcz121_0 : wc.cell? ⟨gb494, 0, none⟩ = some (.slice Ao11 t485.length co11) := (blk_cell BK494.out 0).trans rfl; have hfz121_0 := blk_frozen BK494.out 0) | (go_at_call 14; (with_reducible refine (impl_Peek.calls kj85 _ _ t485 _ _ t496 t499 t492 t525 _ ?side1 ?side2 ?side3 ?side4 A112.out).mono ?_); (case side1 => repeat (first | exact (Kd.S_reads' HO_495000.out).2.2 | (with_reducible refine Kd.C_alloc ?_ _) | (with_reducible refine Kd.C_drewN ?_ _) | (with_reducible refine Kd.C_drew ?_))); (case side2 => exact (Kd.S_reads' HO_495000.out).2.1); (case side3 => repeat (first | exact (Kd.Q_reads' HO_501000.out).2.2 | (with_reducible refine Kd.C_alloc ?_ _) | (with_reducible refine Kd.C_drewN ?_ _) | (with_reducible refine Kd.C_drew ?_))); (case side4 => exact (Kd.Q_reads' HO_501000.out).2.1); rintro e w122 ⟨rfl, hb⟩; have n0_ := Aside0.mk (Kd.S_below (ks HO_495000.out) hb); have n1_ := Aside0.mk (Kd.Q_below (kq HO_496000.out) hb); have n2_ := Aside0.mk (Kd.Q_below (kq HO_501000.out) hb); have n3_ := Aside0.mk (Kd.Q_below (kq HO_506000.out) hb); have n4_ := Aside0.mk (blk_below (g := gb494) (o := .cells #[.slice Ao11 t485.length co11] 29 (0, 0)) (kb BK494.out) hb); have n5_ := Aside0.mk (blk_below (g := gb495) (o := .cells #[.slice Ao14 t488.length co14, .int .i64 t491] 32 (0, 0)) (kb BK495.out) hb); have n6_ := Aside0.mk (blk_below (g := gb500) (o := .cells #[.slice Ao18 t496.length co18, .int .i64 t499] 32 (0, 0)) (kb BK500.out) hb); have n7_ := Aside0.mk (blk_below (g := gb505) (o := .cells #[.slice Ao26 t501.length co26, .int .i64 t504] 32 (0, 0)) (kb BK505.out) hb); have n8_ := Aside0.mk (below_step (bw HB.out) hb); clear HO_495000; clear HO_496000; clear HO_501000; clear HO_506000; clear BK494; clear BK495; clear BK500; clear BK505; clear HB; have HO_495000 := n0_; have HO_496000 := n1_; have HO_501000 := n2_; have HO_506000 := n3_; have BK494 := n4_; have BK495 := n5_; have BK500 := n6_; have BK505 := n7_; have HB := n8_; clear n0_ n1_ n2_ n3_ n4_ n5_ n6_ n7_ n8_; (try clear hb); (try clear hb2); (try clear hk); (try clear hi)))
            go_ret
            exact ⟨rt, bw HB.out⟩
           ·replace c111 := Bool.eq_false_iff.mpr c111
            subst c111
            have H1 : (some false) = some r := by rw [if_neg (show ¬ (false = true) by decide)] at H; exact H
            clear H
            have H := H1
            clear H1
            exact absurd ((Option.some.inj H).trans hrt) (by decide)
          ·rw [if_neg c109] at H
           have c109b0 : (t499 == t491) = false := beq_eq_false_iff_ne.mpr c109
           have c109b1 : (t499 != t491) = true := bne_iff_ne.mpr c109
           exact absurd ((Option.some.inj H).trans hrt) (by decide)
     ·replace c47 := Bool.eq_false_iff.mpr c47
      subst c47
      have H1 : (if t499 = t491 then ((impl_Peek.f kj6 t485 t488 t491 t492).bind fun t512 => (some (t512 == 0))) else (some false)) = some r := by rw [if_neg (show ¬ (false = true) by decide)] at H; exact H
      clear H
      have H := H1
      clear H1
      by_cases c137 : t499 = t491
      ·rw [if_pos c137] at H
       have c137b0 : (t499 == t491) = true := beq_iff_eq.mpr c137
       have c137b1 : (t499 != t491) = false := bne_eq_false_iff_eq.mpr c137
       clear c137
       replace H := Option.bind_eq_some_iff.mp H
       obtain ⟨t512, A1380, H⟩ := H
       replace H : (some (t512 == 0)) = some r := H
       have A138 := Aside0.mk A1380
       clear A1380; clear hrt
       obtain rfl := Option.some.inj H
       go_wp2_with (first | ((with_reducible refine gate_callee (f := 11) rfl ?_); refine goesM_ (some 54) rfl rfl Try.func11 #[.int .i64 t492] ?_; (with_reducible refine (impl_Region.calls t492 t509 t510 _ A45.out).mono ?_); rintro e w' ⟨rfl, ⟨nd, rfl⟩⟩; refine ⟨_, rfl, ?_⟩; have hnb139 := NB494_495.out; have hnc139 := NB495_494.out; have hnb140 := NB494_500.out; have hnc140 := NB500_494.out; have hnb141 := NB494_505.out; have hnc141 := NB505_494.out; have hcz142_0 : wc.cell? ⟨gb494, 0, none⟩ = some (.slice Ao11 t485.length co11) := (blk_cell BK494.out 0).trans rfl; have hfz142_0 := blk_frozen BK494.out 0; have hnb143 := NB495_500.out; have hnc143 := NB500_495.out; have hnb144 := NB495_505.out; have hnc144 := NB505_495.out; have hcz145_0 : wc.cell? ⟨gb495, 0, none⟩ = some (.slice Ao14 t488.length co14) := (blk_cell BK495.out 0).trans rfl; have hcz145_1 : wc.cell? ⟨gb495, 1, none⟩ = some (.int .i64 t491) := (blk_cell BK495.out 1).trans rfl; have hfz145_0 := blk_frozen BK495.out 0; have hfz145_1 := blk_frozen BK495.out 1) | ((with_reducible refine gate_callee (f := 33) rfl ?_); refine goesM_ (some 59) rfl rfl Try.func33 #[.agg #[.slice Ao11 t485.length co11], .agg #[.slice Ao14 t488.length co14, .int .i64 t491]] ?_; (with_reducible refine (spec_MemOk.calls kj6 _ _ t485 _ _ t488 t491 false _ ?side1 ?side2 ?side3 ?side4 A46.out).mono ?_); (case side1 => repeat (first | exact (Kd.S_reads' HO_495000.out).2.2 | (with_reducible refine Kd.C_alloc ?_ _) | (with_reducible refine Kd.C_drewN ?_ _) | (with_reducible refine Kd.C_drew ?_))); (case side2 => exact (Kd.S_reads' HO_495000.out).2.1); (case side3 => repeat (first | exact (Kd.Q_reads' HO_496000.out).2.2 | (with_reducible refine Kd.C_alloc ?_ _) | (with_reducible refine Kd.C_drewN ?_ _) | (with_reducible refine Kd.C_drew ?_))); (case side4 => exact (Kd.Q_reads' HO_496000.out).2.1); rintro e w146 ⟨rfl, hb⟩; refine ⟨_, rfl, ?_⟩; have n0_ := Aside0.mk (Kd.S_below (ks HO_495000.out) hb); have n1_ := Aside0.mk (Kd.Q_below (kq HO_496000.out) hb); have n2_ := Aside0.mk (Kd.Q_below (kq HO_501000.out) hb); have n3_ := Aside0.mk (Kd.Q_below (kq HO_506000.out) hb); have n4_ := Aside0.mk (blk_below (g := gb494) (o := .cells #[.slice Ao11 t485.length co11] 29 (0, 0)) (kb BK494.out) hb); have n5_ := Aside0.mk (blk_below (g := gb495) (o := .cells #[.slice Ao14 t488.length co14, .int .i64 t491] 32 (0, 0)) (kb BK495.out) hb); have n6_ := Aside0.mk (blk_below (g := gb500) (o := .cells #[.slice Ao18 t496.length co18, .int .i64 t499] 32 (0, 0)) (kb BK500.out) hb); have n7_ := Aside0.mk (blk_below (g := gb505) (o := .cells #[.slice Ao26 t501.length co26, .int .i64 t504] 32 (0, 0)) (kb BK505.out) hb); have n8_ := Aside0.mk (below_step (bw HB.out) hb); clear HO_495000; clear HO_496000; clear HO_501000; clear HO_506000; clear BK494; clear BK495; clear BK500; clear BK505; clear HB; have HO_495000 := n0_; have HO_496000 := n1_; have HO_501000 := n2_; have HO_506000 := n3_; have BK494 := n4_; have BK495 := n5_; have BK500 := n6_; have BK505 := n7_; have HB := n8_; clear n0_ n1_ n2_ n3_ n4_ n5_ n6_ n7_ n8_; (try clear hb); (try clear hb2); (try clear hk); (try clear hi); have hnb147 := NB500_505.out; have hnc147 := NB505_500.out; have hcz148_0 : w146.cell? ⟨gb500, 0, none⟩ = some (.slice Ao18 t496.length co18) := (blk_cell BK500.out 0).trans rfl; have hcz148_1 : w146.cell? ⟨gb500, 1, none⟩ = some (.int .i64 t499) := (blk_cell BK500.out 1).trans rfl; have hfz148_0 := blk_frozen BK500.out 0; have hfz148_1 := blk_frozen BK500.out 1; have hcz149_0 : w146.cell? ⟨gb495, 0, none⟩ = some (.slice Ao14 t488.length co14) := (blk_cell BK495.out 0).trans rfl; have hcz149_1 : w146.cell? ⟨gb495, 1, none⟩ = some (.int .i64 t491) := (blk_cell BK495.out 1).trans rfl; have hfz149_0 := blk_frozen BK495.out 0; have hfz149_1 := blk_frozen BK495.out 1; have hcz150_0 : w146.cell? ⟨gb494, 0, none⟩ = some (.slice Ao11 t485.length co11) := (blk_cell BK494.out 0).trans rfl; have hfz150_0 := blk_frozen BK494.out 0) | (go_at_call 14; (with_reducible refine (impl_Peek.calls kj6 _ _ t485 _ _ t488 t491 t492 t512 _ ?side1 ?side2 ?side3 ?side4 A138.out).mono ?_); (case side1 => repeat (first | exact (Kd.S_reads' HO_495000.out).2.2 | (with_reducible refine Kd.C_alloc ?_ _) | (with_reducible refine Kd.C_drewN ?_ _) | (with_reducible refine Kd.C_drew ?_))); (case side2 => exact (Kd.S_reads' HO_495000.out).2.1); (case side3 => repeat (first | exact (Kd.Q_reads' HO_496000.out).2.2 | (with_reducible refine Kd.C_alloc ?_ _) | (with_reducible refine Kd.C_drewN ?_ _) | (with_reducible refine Kd.C_drew ?_))); (case side4 => exact (Kd.Q_reads' HO_496000.out).2.1); rintro e w151 ⟨rfl, hb⟩; have n0_ := Aside0.mk (Kd.S_below (ks HO_495000.out) hb); have n1_ := Aside0.mk (Kd.Q_below (kq HO_496000.out) hb); have n2_ := Aside0.mk (Kd.Q_below (kq HO_501000.out) hb); have n3_ := Aside0.mk (Kd.Q_below (kq HO_506000.out) hb); have n4_ := Aside0.mk (blk_below (g := gb494) (o := .cells #[.slice Ao11 t485.length co11] 29 (0, 0)) (kb BK494.out) hb); have n5_ := Aside0.mk (blk_below (g := gb495) (o := .cells #[.slice Ao14 t488.length co14, .int .i64 t491] 32 (0, 0)) (kb BK495.out) hb); have n6_ := Aside0.mk (blk_below (g := gb500) (o := .cells #[.slice Ao18 t496.length co18, .int .i64 t499] 32 (0, 0)) (kb BK500.out) hb); have n7_ := Aside0.mk (blk_below (g := gb505) (o := .cells #[.slice Ao26 t501.length co26, .int .i64 t504] 32 (0, 0)) (kb BK505.out) hb); have n8_ := Aside0.mk (below_step (bw HB.out) hb); clear HO_495000; clear HO_496000; clear HO_501000; clear HO_506000; clear BK494; clear BK495; clear BK500; clear BK505; clear HB; have HO_495000 := n0_; have HO_496000 := n1_; have HO_501000 := n2_; have HO_506000 := n3_; have BK494 := n4_; have BK495 := n5_; have BK500 := n6_; have BK505 := n7_; have HB := n8_; clear n0_ n1_ n2_ n3_ n4_ n5_ n6_ n7_ n8_; (try clear hb); (try clear hb2); (try clear hk); (try clear hi)))
       go_ret
       exact ⟨rt, bw HB.out⟩
      ·rw [if_neg c137] at H
       have c137b0 : (t499 == t491) = false := beq_eq_false_iff_ne.mpr c137
       have c137b1 : (t499 != t491) = true := bne_iff_ne.mpr c137
       exact absurd ((Option.some.inj H).trans hrt) (by decide)

end Go.Proofs.Ytmkccgbfgebfbaa.MFnMemory
