/- Walks of functions that the law FnImage reaches: each comes to just what its Lean function says. (Begun as the texts that print.sh wrote for this claim; some of them, and those that it does not write, are mine.) No condition. -/
import Derived.Test.YtmkccgbfgebfbaaMFnImagex4
namespace Go.Proofs.Ytmkccgbfgebfbaa.MFnImage
open Go.RowKit Go.Proofs.YtmkccgbfgebfbaaW.PrintWords Go.Proofs.YtmkccgbfgebfbaaW.PrintLast Go.Proofs.YtmkccgbfgebfbaaW.PrintMore
attribute [local go_sem] max2_int min2_int max_two min_two max_three min_three max_four min_four   -- for this text's walks alone
set_option linter.unusedVariables false
set_option linter.unusedSimpArgs false

/-! ### laws_FnImage: function 4 -/
mutual
def laws_FnImage.j0 : Nat → List Int → List Int → Bool → List (List Int) → Option (Bool)
 | 0, _, _, _, _ => none
 | k + 1, x0, x4, x32, x476000 => if x32 = true then (some false) else ((spec_ImageOk.f k x476000).bind fun t484 => (if t484 = true then ((impl_ImageRead.f k x4).bind fun bt485 => (if bt485.2 = 0 then ((laws_sameBanks.f k bt485.1 x476000).bind fun t490 => (if t490 = true then (laws_FnImage.j1 k x0) else (some false))) else (some false))) else (laws_FnImage.j1 k x0)))
def laws_FnImage.j1 : Nat → List Int → Option (Bool)
 | 0, _ => none
 | k + 1, x0 => (spec_DrawImageRead.f k x0).bind fun t491 => ((impl_ImageRead.f k t491).bind fun bt494 => ((spec_ImageRead.f k t491).bind fun bt499 => (if bt494.2 = bt499.2 then ((spec_DrawBankOf.f k x0).bind fun bt504 => ((impl_BankOf.f k bt504.1 bt504.2).bind fun t509 => ((spec_BankOf.f k bt504.1 bt504.2).bind fun t512 => ((laws_sameInts.f k t509 t512).bind fun t515 => (if t515 = true then (if bt494.2 = 0 then ((impl_ImageBytes.f k bt494.1).bind fun t516 => (some ((strOfNums t516).toList == (strOfNums t491).toList))) else (if (bt494.1.length : Int) = 0 then (some true) else (some false))) else (some false)))))) else (some false))))
end
def laws_FnImage.f (k : Nat) (l0 : List Int) : Option (Bool) := (laws_big.f l0).bind fun t471 => (if t471 = true then (some true) else ((spec_DrawImageBytes.f k l0).bind fun t472 => ((impl_ImageBytes.f k t472).bind fun t476 => ((spec_ImageBytes.f k t472).bind fun t479 => (if (t476.length : Int) = (t479.length : Int) then ((impl_ImageOk.f k t472).bind fun t482 => ((spec_ImageOk.f k t472).bind fun t483 => (laws_FnImage.j0 k l0 t476 (t482 != t483) t472))) else (laws_FnImage.j0 k l0 t476 true t472))))))
theorem laws_FnImage.mono_l : ∀ k, (∀ y0 y1 y2 y3, LeO (laws_FnImage.j0 k y0 y1 y2 y3) (laws_FnImage.j0 (k + 1) y0 y1 y2 y3)) ∧ (∀ y0, LeO (laws_FnImage.j1 k y0) (laws_FnImage.j1 (k + 1) y0))
 | 0 => ⟨fun _ _ _ _ r h => by simp [laws_FnImage.j0] at h, fun _ r h => by simp [laws_FnImage.j1] at h⟩
 | k + 1 => by
  obtain ⟨ih0, ih1⟩ := laws_FnImage.mono_l k
  refine ⟨?_, ?_⟩
  ·intro y0 y1 y2 y3
   unfold laws_FnImage.j0
   repeat' first
   | (with_reducible exact ih0 _ _ _ _)
   | (with_reducible exact ih1 _)
   | (with_reducible exact impl_BankOf.mono _ _ _)
   | (with_reducible exact impl_ImageBytes.mono _ _)
   | (with_reducible exact impl_ImageOk.mono _ _)
   | (with_reducible exact impl_ImageRead.mono _ _)
   | (with_reducible exact laws_sameBanks.mono _ _ _)
   | (with_reducible exact laws_sameInts.mono _ _ _)
   | (with_reducible exact spec_BankOf.mono _ _ _)
   | (with_reducible exact spec_DrawBankOf.mono _ _)
   | (with_reducible exact spec_DrawImageBytes.mono _ _)
   | (with_reducible exact spec_DrawImageRead.mono _ _)
   | (with_reducible exact spec_ImageBytes.mono _ _)
   | (with_reducible exact spec_ImageOk.mono _ _)
   | (with_reducible exact spec_ImageRead.mono _ _)
   | (with_reducible exact LeO.refl _)
   | (with_reducible exact LeO.none _)
   | (with_reducible refine LeO.ite ?_ ?_)
   | (with_reducible refine LeO.bind ?_ (fun _ => ?_))
   | exact ih0 _ _ _ _
   | exact ih1 _
   | exact impl_BankOf.mono _ _ _
   | exact impl_ImageBytes.mono _ _
   | exact impl_ImageOk.mono _ _
   | exact impl_ImageRead.mono _ _
   | exact laws_sameBanks.mono _ _ _
   | exact laws_sameInts.mono _ _ _
   | exact spec_BankOf.mono _ _ _
   | exact spec_DrawBankOf.mono _ _
   | exact spec_DrawImageBytes.mono _ _
   | exact spec_DrawImageRead.mono _ _
   | exact spec_ImageBytes.mono _ _
   | exact spec_ImageOk.mono _ _
   | exact spec_ImageRead.mono _ _
   | exact LeO.none _
   | refine LeO.ite ?_ ?_
   | refine LeO.bind ?_ (fun _ => ?_)
  ·intro y0
   unfold laws_FnImage.j1
   repeat' first
   | (with_reducible exact ih0 _ _ _ _)
   | (with_reducible exact ih1 _)
   | (with_reducible exact impl_BankOf.mono _ _ _)
   | (with_reducible exact impl_ImageBytes.mono _ _)
   | (with_reducible exact impl_ImageOk.mono _ _)
   | (with_reducible exact impl_ImageRead.mono _ _)
   | (with_reducible exact laws_sameBanks.mono _ _ _)
   | (with_reducible exact laws_sameInts.mono _ _ _)
   | (with_reducible exact spec_BankOf.mono _ _ _)
   | (with_reducible exact spec_DrawBankOf.mono _ _)
   | (with_reducible exact spec_DrawImageBytes.mono _ _)
   | (with_reducible exact spec_DrawImageRead.mono _ _)
   | (with_reducible exact spec_ImageBytes.mono _ _)
   | (with_reducible exact spec_ImageOk.mono _ _)
   | (with_reducible exact spec_ImageRead.mono _ _)
   | (with_reducible exact LeO.refl _)
   | (with_reducible exact LeO.none _)
   | (with_reducible refine LeO.ite ?_ ?_)
   | (with_reducible refine LeO.bind ?_ (fun _ => ?_))
   | exact ih0 _ _ _ _
   | exact ih1 _
   | exact impl_BankOf.mono _ _ _
   | exact impl_ImageBytes.mono _ _
   | exact impl_ImageOk.mono _ _
   | exact impl_ImageRead.mono _ _
   | exact laws_sameBanks.mono _ _ _
   | exact laws_sameInts.mono _ _ _
   | exact spec_BankOf.mono _ _ _
   | exact spec_DrawBankOf.mono _ _
   | exact spec_DrawImageBytes.mono _ _
   | exact spec_DrawImageRead.mono _ _
   | exact spec_ImageBytes.mono _ _
   | exact spec_ImageOk.mono _ _
   | exact spec_ImageRead.mono _ _
   | exact LeO.none _
   | refine LeO.ite ?_ ?_
   | refine LeO.bind ?_ (fun _ => ?_)
theorem laws_FnImage.mono : ∀ a0 k, LeO (laws_FnImage.f k a0) (laws_FnImage.f (k + 1) a0) := by
 intro a0 k
 obtain ⟨ih0, ih1⟩ := laws_FnImage.mono_l k
 unfold laws_FnImage.f
 repeat' first
   | (with_reducible exact ih0 _ _ _ _)
   | (with_reducible exact ih1 _)
   | (with_reducible exact impl_BankOf.mono _ _ _)
   | (with_reducible exact impl_ImageBytes.mono _ _)
   | (with_reducible exact impl_ImageOk.mono _ _)
   | (with_reducible exact impl_ImageRead.mono _ _)
   | (with_reducible exact laws_sameBanks.mono _ _ _)
   | (with_reducible exact laws_sameInts.mono _ _ _)
   | (with_reducible exact spec_BankOf.mono _ _ _)
   | (with_reducible exact spec_DrawBankOf.mono _ _)
   | (with_reducible exact spec_DrawImageBytes.mono _ _)
   | (with_reducible exact spec_DrawImageRead.mono _ _)
   | (with_reducible exact spec_ImageBytes.mono _ _)
   | (with_reducible exact spec_ImageOk.mono _ _)
   | (with_reducible exact spec_ImageRead.mono _ _)
   | (with_reducible exact LeO.refl _)
   | (with_reducible exact LeO.none _)
   | (with_reducible refine LeO.ite ?_ ?_)
   | (with_reducible refine LeO.bind ?_ (fun _ => ?_))
   | exact ih0 _ _ _ _
   | exact ih1 _
   | exact impl_BankOf.mono _ _ _
   | exact impl_ImageBytes.mono _ _
   | exact impl_ImageOk.mono _ _
   | exact impl_ImageRead.mono _ _
   | exact laws_sameBanks.mono _ _ _
   | exact laws_sameInts.mono _ _ _
   | exact spec_BankOf.mono _ _ _
   | exact spec_DrawBankOf.mono _ _
   | exact spec_DrawImageBytes.mono _ _
   | exact spec_DrawImageRead.mono _ _
   | exact spec_ImageBytes.mono _ _
   | exact spec_ImageOk.mono _ _
   | exact spec_ImageRead.mono _ _
   | exact LeO.none _
   | refine LeO.ite ?_ ?_
   | refine LeO.bind ?_ (fun _ => ?_)
def laws_FnImage.T5 : Bool × List (List Nat × List Nat) := (true, [([], []), ([0], [0]), ([], []), ([2], [2]), ([3], [3]), ([1, 4], [1, 4]), ([5, 3], [5]), ([6], [6]), ([7, 6, 6], [6, 7]), ([6], [6]), ([9, 8, 6], [6, 9]), ([8, 10, 6], [6, 8, 10]), ([6, 11], [6, 11])])
def laws_FnImage.B5 : List Nat := [0, 1, 0, 4, 12, 31, 63, 127, 255, 127, 1023, 2047, 4095]
theorem laws_FnImage.tab5 : rtab .any (opsOf Try.f4 5) = laws_FnImage.T5 := by kernel_rfl
theorem laws_FnImage.bits5 : waitsOk laws_FnImage.T5.2 laws_FnImage.B5 = true := by kernel_rfl
def laws_FnImage.T17 : Bool × List (List Nat × List Nat) := (true, [([], []), ([], []), ([0, 1], [0, 1]), ([], []), ([], []), ([3, 4, 2], [3, 4]), ([2, 5, 5], [2, 5]), ([6], [6])])
def laws_FnImage.B17 : List Nat := [0, 0, 3, 0, 0, 31, 63, 127]
theorem laws_FnImage.tab17 : rtab .any (opsOf Try.f4 17) = laws_FnImage.T17 := by kernel_rfl
theorem laws_FnImage.bits17 : waitsOk laws_FnImage.T17.2 laws_FnImage.B17 = true := by kernel_rfl
def laws_FnImage.T19 : Bool × List (List Nat × List Nat) := (true, [([], []), ([0], [0]), ([1], [1]), ([2], [2]), ([3, 2], [2, 3]), ([4, 2], [2, 4]), ([5, 2], [2, 5]), ([2, 6], [2, 6]), ([7, 2], [7]), ([8], [8]), ([9, 8], [8, 9]), ([10, 8, 8], [8, 10]), ([11], [11]), ([12, 11, 11], [11, 12]), ([13, 11], [11, 13]), ([11], [11]), ([15, 11], [11, 15]), ([14, 16, 11], [11, 14, 16]), ([11, 17, 8], [8, 11, 17]), ([8, 18], [8, 18]), ([19, 13, 0, 1, 2, 3, 4, 5, 6, 7, 8, 9, 10, 11, 12, 13, 14, 15, 16, 17, 18, 19], [19])])
def laws_FnImage.B19 : List Nat := [0, 1, 3, 7, 15, 31, 63, 127, 255, 511, 1023, 2047, 4095, 8191, 16383, 4095, 36863, 131071, 262143, 524287, 1048575]
theorem laws_FnImage.tab19 : rtab .any (opsOf Try.f4 19) = laws_FnImage.T19 := by kernel_rfl
theorem laws_FnImage.bits19 : waitsOk laws_FnImage.T19.2 laws_FnImage.B19 = true := by kernel_rfl
set_option maxHeartbeats 8000000 in
set_option maxRecDepth 100000 in
theorem laws_FnImage.calls (k : Nat) (A0 : Option Addr) (c0 : Nat) (l0 : List Int) (r : Bool) (w : World) (hr0 : Kd.C (Kd.int .u8) w A0 l0.length l0) (hc0 : l0.length ≤ c0) (h : laws_FnImage.f k l0 = some r) (hrt : r = true) :
  Calls Try.prog 4 #[.slice A0 l0.length c0] w fun e w' => e = .returned (.bool r) ∧ Below w.heap.size w w' := by
 have hu29 := Try.underlying29
 have HR0 := Aside0.mk hr0
 have HC0 := Aside0.mk hc0
 clear hr0 hc0
 have HB := Aside0.mk (Below.refl w.heap.size w)
 have H : ((laws_big.f l0).bind fun t471 => (if t471 = true then (some true) else ((spec_DrawImageBytes.f k l0).bind fun t472 => ((impl_ImageBytes.f k t472).bind fun t476 => ((spec_ImageBytes.f k t472).bind fun t479 => (if (t476.length : Int) = (t479.length : Int) then ((impl_ImageOk.f k t472).bind fun t482 => ((spec_ImageOk.f k t472).bind fun t483 => (laws_FnImage.j0 k l0 t476 (t482 != t483) t472))) else (laws_FnImage.j0 k l0 t476 true t472))))))) = some r := h
 clear h
 replace H := Option.bind_eq_some_iff.mp H
 obtain ⟨t471, A20, H⟩ := H
 replace H : (if t471 = true then (some true) else ((spec_DrawImageBytes.f k l0).bind fun t472 => ((impl_ImageBytes.f k t472).bind fun t476 => ((spec_ImageBytes.f k t472).bind fun t479 => (if (t476.length : Int) = (t479.length : Int) then ((impl_ImageOk.f k t472).bind fun t482 => ((spec_ImageOk.f k t472).bind fun t483 => (laws_FnImage.j0 k l0 t476 (t482 != t483) t472))) else (laws_FnImage.j0 k l0 t476 true t472)))))) = some r := H
 have A2 := Aside0.mk A20
 clear A20
 by_cases c3 : t471 = true
 ·subst c3
  have H1 : (some true) = some r := by rw [if_pos rfl] at H; exact H
  clear H
  have H := H1
  clear H1
  obtain rfl := Option.some.inj H
  go_enter Try.func4, Try.ntmps4
  go_wp2_with (first | ((with_reducible refine gate_callee (f := 9) rfl ?_); refine goesM_ (some 15) rfl rfl Try.func9 #[.slice A0 l0.length c0] ?_; (with_reducible refine (laws_big.calls _ _ l0 true _ ?side1 ?side2 A2.out).mono ?_); (case side1 => exact kc HR0.out); (case side2 => exact HC0.out); rintro e w' ⟨rfl, ⟨nd, rfl⟩⟩; refine ⟨_, rfl, ?_⟩))
  go_ret
  exact ⟨rt, bw HB.out⟩
 ·replace c3 := Bool.eq_false_iff.mpr c3
  subst c3
  have H1 : ((spec_DrawImageBytes.f k l0).bind fun t472 => ((impl_ImageBytes.f k t472).bind fun t476 => ((spec_ImageBytes.f k t472).bind fun t479 => (if (t476.length : Int) = (t479.length : Int) then ((impl_ImageOk.f k t472).bind fun t482 => ((spec_ImageOk.f k t472).bind fun t483 => (laws_FnImage.j0 k l0 t476 (t482 != t483) t472))) else (laws_FnImage.j0 k l0 t476 true t472))))) = some r := by rw [if_neg (show ¬ (false = true) by decide)] at H; exact H
  clear H
  have H := H1
  clear H1
  replace H := Option.bind_eq_some_iff.mp H
  obtain ⟨t472, A40, H⟩ := H
  replace H : ((impl_ImageBytes.f k t472).bind fun t476 => ((spec_ImageBytes.f k t472).bind fun t479 => (if (t476.length : Int) = (t479.length : Int) then ((impl_ImageOk.f k t472).bind fun t482 => ((spec_ImageOk.f k t472).bind fun t483 => (laws_FnImage.j0 k l0 t476 (t482 != t483) t472))) else (laws_FnImage.j0 k l0 t476 true t472)))) = some r := H
  have A4 := Aside0.mk A40
  clear A40
  replace H := Option.bind_eq_some_iff.mp H
  obtain ⟨t476, A50, H⟩ := H
  replace H : ((spec_ImageBytes.f k t472).bind fun t479 => (if (t476.length : Int) = (t479.length : Int) then ((impl_ImageOk.f k t472).bind fun t482 => ((spec_ImageOk.f k t472).bind fun t483 => (laws_FnImage.j0 k l0 t476 (t482 != t483) t472))) else (laws_FnImage.j0 k l0 t476 true t472))) = some r := H
  have A5 := Aside0.mk A50
  clear A50
  have HC6 := Aside0.mk H
  clear H
  go_enter Try.func4, Try.ntmps4
  go_upto_region 5 with (first | ((with_reducible refine gate_callee (f := 9) rfl ?_); refine goesM_ (some 15) rfl rfl Try.func9 #[.slice A0 l0.length c0] ?_; (with_reducible refine (laws_big.calls _ _ l0 false _ ?side1 ?side2 A2.out).mono ?_); (case side1 => exact kc HR0.out); (case side2 => exact HC0.out); rintro e w' ⟨rfl, ⟨nd, rfl⟩⟩; refine ⟨_, rfl, ?_⟩) | ((with_reducible refine gate_callee (f := 16) rfl ?_); refine goesM_ (some 17) rfl rfl Try.func16 #[.slice A0 l0.length c0] ?_; (with_reducible refine (spec_DrawImageBytes.calls k _ _ l0 t472 _ ?side1 ?side2 A4.out).mono ?_); (case side1 => exact kc HR0.out); (case side2 => exact HC0.out); rintro e w7 ⟨v473, rfl, ho0, hb⟩; refine ⟨_, rfl, ?_⟩; have n0_ := Aside0.mk (Kd.S_lower ho0 (below_size (bw HB.out))); have n1_ := Aside0.mk (below_step (bw HB.out) hb); clear HB; have HO474 := n0_; have HB := n1_; clear n0_ n1_; (try clear hb); (try clear hb2); (try clear hk); (try clear hi); (try clear ho0)) | ((with_reducible refine gate_dst (N := 3) rfl ?_); (try (refine gate_guard (by rfl) ?_; dsimp only)); refine bx (N := 3) (cs := #[.slice none 0 0]) (t := 29) ?_; intro gb475 hg w8 hbox hb; have n0_ := Aside0.mk (Kd.S_below (ks HO474.out) hb); have n1_ := Aside0.mk (below_step (bw HB.out) hb); have n2_ := Aside0.mk (hbox); have n3_ := Aside0.mk ((gs hg (bw HB.out))); have n4_ := Aside0.mk ((gs hg (bw HB.out))); clear HO474; clear HB; have HO474 := n0_; have HB := n1_; have BK475 := n2_; have GW475 := n3_; have GE475 := n4_; clear n0_ n1_ n2_ n3_ n4_; clear hb hbox hg; obtain ⟨Ao9, co9, eo9⟩ := Kd.S_slice HO474.out; subst eo9; have hcz10_0 : w8.cell? ⟨gb475, 0, none⟩ = some (.slice none 0 0) := (blk_cell BK475.out 0).trans rfl; have hfz10_0 := blk_frozen BK475.out 0) | ((with_reducible refine gate_callee (f := 17) rfl ?_); refine goesM_ (some 19) rfl rfl Try.func17 #[.agg #[.slice Ao9 t472.length co9]] ?_; (with_reducible refine (impl_ImageBytes.calls k _ _ t472 t476 _ ?side1 ?side2 A5.out).mono ?_); (case side1 => refine (Kd.S_reads' (d := cutK 3 (Kd.int .i64)) (e := 30) (base := w.heap.size) (ok := fun k_ => True) (n := t472.length) (c := co9) ?_).2.2; exact (ks ((Kd.S_mono (Kd.S_far (p := ⟨gb475, 0, none⟩) (Kd.S_types HO474.out BK475.out (by decide)) (fun _ hk => hk.2) (.slice Ao9 t472.length co9)) (fun _ h_ => h_.1))))); (case side2 => exact (Kd.S_reads' HO474.out).2.1); rintro e w11 ⟨v477, rfl, ho0, hb⟩; refine ⟨_, rfl, ?_⟩; have n0_ := Aside0.mk (Kd.S_below (ks ((Kd.S_mono (Kd.S_far (p := ⟨gb475, 0, none⟩) (Kd.S_types HO474.out BK475.out (by decide)) (fun _ hk => hk.2) (.slice Ao9 t472.length co9)) (fun _ h_ => h_.1)))) hb); have n1_ := Aside0.mk (Kd.R_lower ho0 (below_size (bw HB.out))); have n2_ := Aside0.mk (blk_below (g := gb475) (o := .cells #[.slice Ao9 t472.length co9] 29 (0, 0)) (kt BK475.out) hb); have n3_ := Aside0.mk (below_step (bw HB.out) hb); clear HO474; clear BK475; clear HB; have HO474 := n0_; have HO478 := n1_; have BK475 := n2_; have HB := n3_; clear n0_ n1_ n2_ n3_; (try clear hb); (try clear hb2); (try clear hk); (try clear hi); (try clear ho0)))
  (try simp only [Act.put, List.setIfInBounds_toArray, List.set_cons_zero, List.set_cons_succ])
  go_cut [32] (fun v32 wc => ∃ (kq : Nat) (x32_5 : Bool), v32 = .bool x32_5 ∧ Aside0 (laws_FnImage.j0 kq l0 t476 x32_5 t472 = some r) ∧ Aside0 (kq ≤ k) ∧ Aside0 (Kd.R (Kd.int .u8) 5 wc w.heap.size (fun _ => True) v477 t476) ∧ Aside0 (Kd.S (cutK 3 (Kd.int .i64)) 30 wc w.heap.size (fun _ => True) (.slice Ao9 t472.length co9) t472) ∧ Aside0 (wc.heap[gb475]? = some (.cells #[(.slice Ao9 t472.length co9)] 29 (0, 0))) ∧ Aside0 (Below w.heap.size w wc))
  case first =>
   have H := HC6.out
   clear HC6
   replace H := Option.bind_eq_some_iff.mp H
   obtain ⟨t479, A120, H⟩ := H
   replace H : (if (t476.length : Int) = (t479.length : Int) then ((impl_ImageOk.f k t472).bind fun t482 => ((spec_ImageOk.f k t472).bind fun t483 => (laws_FnImage.j0 k l0 t476 (t482 != t483) t472))) else (laws_FnImage.j0 k l0 t476 true t472)) = some r := H
   have A12 := Aside0.mk A120
   clear A120
   by_cases c13 : (t476.length : Int) = (t479.length : Int)
   ·rw [if_pos c13] at H
    have c13b0 : ((t476.length : Int) == (t479.length : Int)) = true := beq_iff_eq.mpr c13
    have c13b1 : ((t476.length : Int) != (t479.length : Int)) = false := bne_eq_false_iff_eq.mpr c13
    have c13b2 : (t476.length == t479.length) = true := by first | simpa using c13 | (simp at c13 ⊢; omega)
    clear c13
    (first | rw [c13b0] | (simp only [i64_w, i32_w]; rw [c13b0]) | skip)
    replace H := Option.bind_eq_some_iff.mp H
    obtain ⟨t482, A140, H⟩ := H
    replace H : ((spec_ImageOk.f k t472).bind fun t483 => (laws_FnImage.j0 k l0 t476 (t482 != t483) t472)) = some r := H
    have A14 := Aside0.mk A140
    clear A140
    replace H := Option.bind_eq_some_iff.mp H
    obtain ⟨t483, A150, H⟩ := H
    replace H : (laws_FnImage.j0 k l0 t476 (t482 != t483) t472) = some r := H
    have A15 := Aside0.mk A150
    clear A150
    have H' := Aside0.mk H
    clear H
    try go_wp2
    have n0_ := Aside0.mk (Kd.S_drew HO474.out)
    have n1_ := Aside0.mk (Kd.R_drew HO478.out)
    have n2_ := Aside0.mk (blk_drew BK475.out)
    have n3_ := Aside0.mk (below_drew1 HB.out)
    clear HO474; clear HO478; clear BK475; clear HB; have HO474 := n0_; have HO478 := n1_; have BK475 := n2_; have HB := n3_; clear n0_ n1_ n2_ n3_
    obtain ⟨Ao17, co17, eo17⟩ := Kd.R_slice HO478.out
    (first | subst eo17 | (injection eo17 with f1_ f2_ f3_; have f4_ := f1_.symm; have f5_ := f3_.symm; clear f1_ f2_ f3_; subst f4_; subst f5_))
    refine start_ (n := 13) (S := fun w' => w'.cell? ⟨gb475, 0, none⟩ = some (.slice Ao9 t472.length co9)) (ds := []) #[false, false, false, false, false, false, false, false, false, false, false, false, false] (by kernel_rfl) rfl rfl ((blk_cell BK475.out 0).trans rfl) (fun hHeld => ?_); refine with_tabW laws_FnImage.tab5 laws_FnImage.bits5 (fun HT_ HW_ => ?_)
    generalize w11.drew = w16 at HO474 HO478 BK475 HB hHeld ⊢
    refine pure_ (i := 0) (N := some 20) (v := ?_) (a' := ?_) #[true, false, false, false, false, false, false, false, false, false, false, false, false] rfl rfl (any_of HT_.out (by kernel_rfl)) (fun _ _ _ h => h) (Or.inl ⟨by rfl, ?_⟩) ?_ ?_
    rotate_left
    ·intro w'
     go_simp
     with_reducible rfl
    rotate_left
    ·simp only [Act.put, List.setIfInBounds_toArray, List.set_cons_zero, List.set_cons_succ, i64_w, i32_w]
     rfl
    refine pure_ (i := 1) (N := some 21) (v := ?_) (a' := ?_) #[true, true, false, false, false, false, false, false, false, false, false, false, false] rfl rfl (any_of HT_.out (by kernel_rfl)) (fun _ _ _ h => h) (Or.inl ⟨by rfl, ?_⟩) ?_ ?_
    rotate_left
    ·intro w'
     go_simp
     with_reducible rfl
    rotate_left
    ·simp only [Act.put, List.setIfInBounds_toArray, List.set_cons_zero, List.set_cons_succ, i64_w, i32_w]
     rfl
    refine take_ (i := 2) (N := some 22) (v := ?_) (a' := ?_) #[true, true, true, false, false, false, false, false, false, false, false, false, false] rfl rfl (take_ofW HT_.out HW_.out (by kernel_rfl)) (fun _ _ _ h => h) (Or.inl ⟨by rfl, ?_⟩) hHeld ?_ ?_
    rotate_left
    ·intro w' s0
     go_simp
     with_reducible rfl
    rotate_left
    ·simp only [Act.put, List.setIfInBounds_toArray, List.set_cons_zero, List.set_cons_succ, i64_w, i32_w]
     rfl
    refine one_ (i := 3) (N := some 23) #[true, true, true, true, false, false, false, false, false, false, false, false, false] rfl rfl (one_of HT_.out (by kernel_rfl)) (by decide) (fun K hK => ?_)
    refine goes_ Try.func18 (by kernel_rfl) rfl #[.agg #[.slice Ao9 t472.length co9]] (by rfl) rfl rfl (by (try simp only [List.map_toArray, List.map_cons, List.map_nil]); first | done | rfl | (simp only [List.length_drop, List.length_take]; rfl)) ?_
    with_reducible refine (spec_ImageBytes.calls k _ _ t472 t479 _ ?side1 ?side2 A12.out).mono ?_
    (case side1 => repeat (first | exact (Kd.S_reads' HO474.out).2.2 | (with_reducible refine Kd.C_alloc ?_ _) | (with_reducible refine Kd.C_drewN ?_ _) | (with_reducible refine Kd.C_drew ?_)))
    (case side2 => exact (Kd.S_reads' HO474.out).2.1)
    rintro e w18 ⟨v480, rfl, ho0, hb⟩
    refine ⟨_, rfl, ?_⟩
    have n0_ := Aside0.mk (Kd.S_below (ks HO474.out) hb)
    have n1_ := Aside0.mk (Kd.R_elder' (kr HO478.out) (Kd.R_base ho0) hb)
    have n2_ := Aside0.mk (Kd.R_lower (Kd.R_new' ho0 (Kd.R_lt (kr HO478.out))) (below_size (bw HB.out)))
    have n3_ := Aside0.mk (blk_below (g := gb475) (o := .cells #[.slice Ao9 t472.length co9] 29 (0, 0)) (kb BK475.out) hb)
    have n4_ := Aside0.mk (below_step (bw HB.out) hb)
    clear HO474; clear HO478; clear BK475; clear HB; have HO474 := n0_; have HO478 := n1_; have HO481 := n2_; have BK475 := n3_; have HB := n4_; clear n0_ n1_ n2_ n3_ n4_; (try clear hb); (try clear hb2); (try clear hk); (try clear hi); (try clear ho0)
    obtain ⟨Ao19, co19, eo19⟩ := Kd.R_slice HO481.out
    (first | subst eo19 | (injection eo19 with f1_ f2_ f3_; have f4_ := f1_.symm; have f5_ := f3_.symm; clear f1_ f2_ f3_; subst f4_; subst f5_))
    refine hK.out _ _ ((blk_cell BK475.out 0).trans rfl) (fun hHeld => ?_)
    clear hK K
    refine norm_ (a' := ?_) ?_ ?_
    rotate_left
    ·show Act.put _ (some 23) _ = _
     simp only [Act.put, List.setIfInBounds_toArray, List.set_cons_zero, List.set_cons_succ, i64_w, i32_w]
     rfl
    refine pure_ (i := 4) (N := some 24) (v := ?_) (a' := ?_) #[true, true, true, true, true, false, false, false, false, false, false, false, false] rfl rfl (any_of HT_.out (by kernel_rfl)) (fun _ _ _ h => h) (Or.inl ⟨by rfl, ?_⟩) ?_ ?_
    rotate_left
    ·intro w'
     go_simp
     with_reducible rfl
    rotate_left
    ·simp only [Act.put, List.setIfInBounds_toArray, List.set_cons_zero, List.set_cons_succ, i64_w, i32_w]
     rfl
    refine pure_ (i := 5) (N := some 25) (v := ?_) (a' := ?_) #[true, true, true, true, true, true, false, false, false, false, false, false, false] rfl rfl (any_of HT_.out (by kernel_rfl)) (fun _ _ _ h => h) (Or.inl ⟨by rfl, ?_⟩) ?_ ?_
    rotate_left
    ·intro w'
     go_simp
     with_reducible rfl
    rotate_left
    ·simp only [Act.put, List.setIfInBounds_toArray, List.set_cons_zero, List.set_cons_succ, i64_w, i32_w]
     rfl
    refine pure_ (i := 6) (N := some 26) (v := ?_) (a' := ?_) #[true, true, true, true, true, true, true, false, false, false, false, false, false] rfl rfl (any_of HT_.out (by kernel_rfl)) (fun _ _ _ h => h) (Or.inl ⟨by rfl, ?_⟩) ?_ ?_
    rotate_left
    ·intro w'
     go_simp
     with_reducible rfl
    rotate_left
    ·simp only [Act.put, List.setIfInBounds_toArray, List.set_cons_zero, List.set_cons_succ, i64_w, i32_w]
     rfl
    refine take_ (i := 7) (N := some 27) (v := ?_) (a' := ?_) #[true, true, true, true, true, true, true, true, false, false, false, false, false] rfl rfl (take_ofW HT_.out HW_.out (by kernel_rfl)) (fun _ _ _ h => h) (Or.inl ⟨by rfl, ?_⟩) hHeld ?_ ?_
    rotate_left
    ·intro w' s0
     go_simp
     with_reducible rfl
    rotate_left
    ·simp only [Act.put, List.setIfInBounds_toArray, List.set_cons_zero, List.set_cons_succ, i64_w, i32_w]
     rfl
    refine take_ (i := 9) (N := some 29) (v := ?_) (a' := ?_) #[true, true, true, true, true, true, true, true, false, true, false, false, false] rfl rfl (take_ofW HT_.out HW_.out (by kernel_rfl)) (fun _ _ _ h => h) (Or.inl ⟨by rfl, ?_⟩) hHeld ?_ ?_
    rotate_left
    ·intro w' s0
     go_simp
     with_reducible rfl
    rotate_left
    ·simp only [Act.put, List.setIfInBounds_toArray, List.set_cons_zero, List.set_cons_succ, i64_w, i32_w]
     rfl
    refine one_ (i := 8) (N := some 28) #[true, true, true, true, true, true, true, true, true, true, false, false, false] rfl rfl (one_of HT_.out (by kernel_rfl)) (by decide) (fun K hK => ?_)
    refine goes_ Try.func19 (by kernel_rfl) rfl #[.agg #[.slice Ao9 t472.length co9]] (by rfl) rfl rfl (by (try simp only [List.map_toArray, List.map_cons, List.map_nil]); first | done | rfl | (simp only [List.length_drop, List.length_take]; rfl)) ?_
    with_reducible refine (impl_ImageOk.calls k _ _ t472 t482 _ ?side1 ?side2 A14.out).mono ?_
    (case side1 => repeat (first | exact (Kd.S_reads' HO474.out).2.2 | (with_reducible refine Kd.C_alloc ?_ _) | (with_reducible refine Kd.C_drewN ?_ _) | (with_reducible refine Kd.C_drew ?_)))
    (case side2 => exact (Kd.S_reads' HO474.out).2.1)
    rintro e w20 ⟨rfl, hb⟩
    refine ⟨_, rfl, ?_⟩
    have n0_ := Aside0.mk (Kd.S_below (ks HO474.out) hb)
    have n1_ := Aside0.mk (Kd.R_below (kr HO478.out) hb)
    have n2_ := Aside0.mk (Kd.R_below (kr HO481.out) hb)
    have n3_ := Aside0.mk (blk_below (g := gb475) (o := .cells #[.slice Ao9 t472.length co9] 29 (0, 0)) (kb BK475.out) hb)
    have n4_ := Aside0.mk (below_step (bw HB.out) hb)
    clear HO474; clear HO478; clear HO481; clear BK475; clear HB; have HO474 := n0_; have HO478 := n1_; have HO481 := n2_; have BK475 := n3_; have HB := n4_; clear n0_ n1_ n2_ n3_ n4_; (try clear hb); (try clear hb2); (try clear hk); (try clear hi)
    refine hK.out _ _ ((blk_cell BK475.out 0).trans rfl) (fun hHeld => ?_)
    clear hK K
    refine norm_ (a' := ?_) ?_ ?_
    rotate_left
    ·show Act.put _ (some 28) _ = _
     simp only [Act.put, List.setIfInBounds_toArray, List.set_cons_zero, List.set_cons_succ, i64_w, i32_w]
     rfl
    refine one_ (i := 10) (N := some 30) #[true, true, true, true, true, true, true, true, true, true, true, false, false] rfl rfl (one_of HT_.out (by kernel_rfl)) (by decide) (fun K hK => ?_)
    refine goes_ Try.func20 (by kernel_rfl) rfl #[.agg #[.slice Ao9 t472.length co9]] (by rfl) rfl rfl (by (try simp only [List.map_toArray, List.map_cons, List.map_nil]); first | done | rfl | (simp only [List.length_drop, List.length_take]; rfl)) ?_
    with_reducible refine (spec_ImageOk.calls k _ _ t472 t483 _ ?side1 ?side2 A15.out).mono ?_
    (case side1 => repeat (first | exact (Kd.S_reads' HO474.out).2.2 | (with_reducible refine Kd.C_alloc ?_ _) | (with_reducible refine Kd.C_drewN ?_ _) | (with_reducible refine Kd.C_drew ?_)))
    (case side2 => exact (Kd.S_reads' HO474.out).2.1)
    rintro e w21 ⟨rfl, hb⟩
    refine ⟨_, rfl, ?_⟩
    have n0_ := Aside0.mk (Kd.S_below (ks HO474.out) hb)
    have n1_ := Aside0.mk (Kd.R_below (kr HO478.out) hb)
    have n2_ := Aside0.mk (Kd.R_below (kr HO481.out) hb)
    have n3_ := Aside0.mk (blk_below (g := gb475) (o := .cells #[.slice Ao9 t472.length co9] 29 (0, 0)) (kb BK475.out) hb)
    have n4_ := Aside0.mk (below_step (bw HB.out) hb)
    clear HO474; clear HO478; clear HO481; clear BK475; clear HB; have HO474 := n0_; have HO478 := n1_; have HO481 := n2_; have BK475 := n3_; have HB := n4_; clear n0_ n1_ n2_ n3_ n4_; (try clear hb); (try clear hb2); (try clear hk); (try clear hi)
    refine hK.out _ _ ((blk_cell BK475.out 0).trans rfl) (fun hHeld => ?_)
    clear hK K
    refine norm_ (a' := ?_) ?_ ?_
    rotate_left
    ·show Act.put _ (some 30) _ = _
     simp only [Act.put, List.setIfInBounds_toArray, List.set_cons_zero, List.set_cons_succ, i64_w, i32_w]
     rfl
    refine pure_ (i := 11) (N := some 31) (v := ?_) (a' := ?_) #[true, true, true, true, true, true, true, true, true, true, true, true, false] rfl rfl (any_of HT_.out (by kernel_rfl)) (fun _ _ _ h => h) (Or.inl ⟨by rfl, ?_⟩) ?_ ?_
    rotate_left
    ·intro w'
     go_simp
     with_reducible rfl
    rotate_left
    ·simp only [Act.put, List.setIfInBounds_toArray, List.set_cons_zero, List.set_cons_succ, i64_w, i32_w]
     rfl
    refine pure_ (i := 12) (N := some 32) (v := ?_) (a' := ?_) #[true, true, true, true, true, true, true, true, true, true, true, true, true] rfl rfl (any_of HT_.out (by kernel_rfl)) (fun _ _ _ h => h) (Or.inl ⟨by rfl, ?_⟩) ?_ ?_
    rotate_left
    ·intro w'
     go_simp
     with_reducible rfl
    rotate_left
    ·simp only [Act.put, List.setIfInBounds_toArray, List.set_cons_zero, List.set_cons_succ, i64_w, i32_w]
     rfl
    refine done_ (done_of HT_.out (by kernel_rfl)) ?_
    try go_wp2
    go_meet
    case rel => exact ⟨_, ((t482 != t483)), (by first | rfl | (simp; done) | (simp [*]; done)), H', ⟨by first | omega | exact Nat.le_refl _⟩, ⟨kr (Kd.R_mono HO478.out (fun _ hk => trivial))⟩, ⟨ks HO474.out⟩, ⟨kb BK475.out⟩, ⟨bw HB.out⟩⟩
   ·rw [if_neg c13] at H
    have c13b0 : ((t476.length : Int) == (t479.length : Int)) = false := beq_eq_false_iff_ne.mpr c13
    have c13b1 : ((t476.length : Int) != (t479.length : Int)) = true := bne_iff_ne.mpr c13
    have c13b2 : (t476.length == t479.length) = false := by first | simpa using c13 | (simp at c13 ⊢; omega)
    (first | rw [c13b0] | (simp only [i64_w, i32_w]; rw [c13b0]) | skip)
    exact absurd (show r = false by first | (cases k with | zero => (simp [laws_FnImage.j0] at H; done) | succ k_ => (simp [laws_FnImage.j0] at H; (first | exact H | exact H.symm))) | (cases kj27 with | zero => (simp [laws_FnImage.j0] at H; done) | succ k_ => (simp [laws_FnImage.j0] at H; (first | exact H | exact H.symm))) | (cases kj5 with | zero => (simp [laws_FnImage.j0] at H; done) | succ k_ => (simp [laws_FnImage.j0] at H; (first | exact H | exact H.symm)))) (by rw [hrt]; decide)
  case rest =>
   clear HC6; (try clear c1); (try clear c2); (try clear p2); (try clear c3); (try clear c4); (try clear c9); (try clear c13); (try clear c13b0); (try clear c13b1); (try clear c13b2); (try clear c16); (try clear c17); (try clear c18); (try clear c19); (try clear c20); (try clear hcz10_0); (try clear hfz10_0)
   obtain ⟨kq, x32_5, rfl, HA, HJ5, HO_4, HO_476000, BK475, HB⟩ := hcut
   cases kq with
   | zero => exact absurd HA.out (by simp [laws_FnImage.j0])
   | succ kj5 =>
    have H := HA.out
    clear HA
    simp only [laws_FnImage.j0] at H
    by_cases c26 : x32_5 = true
    ·subst c26
     have H1 : (some false) = some r := by rw [if_pos rfl] at H; exact H
     clear H
     have H := H1
     clear H1
     exact absurd ((Option.some.inj H).trans hrt) (by decide)
    ·replace c26 := Bool.eq_false_iff.mpr c26
     subst c26
     have H1 : ((spec_ImageOk.f kj5 t472).bind fun t484 => (if t484 = true then ((impl_ImageRead.f kj5 t476).bind fun bt485 => (if bt485.2 = 0 then ((laws_sameBanks.f kj5 bt485.1 t472).bind fun t490 => (if t490 = true then (laws_FnImage.j1 kj5 l0) else (some false))) else (some false))) else (laws_FnImage.j1 kj5 l0))) = some r := by rw [if_neg (show ¬ (false = true) by decide)] at H; exact H
     clear H
     have H := H1
     clear H1
     replace H := Option.bind_eq_some_iff.mp H
     obtain ⟨t484, A270, H⟩ := H
     replace H : (if t484 = true then ((impl_ImageRead.f kj5 t476).bind fun bt485 => (if bt485.2 = 0 then ((laws_sameBanks.f kj5 bt485.1 t472).bind fun t490 => (if t490 = true then (laws_FnImage.j1 kj5 l0) else (some false))) else (some false))) else (laws_FnImage.j1 kj5 l0)) = some r := H
     have A27 := Aside0.mk A270
     clear A270
     have HC28 := Aside0.mk H
     clear H
     have hcz29_0 : wc.cell? ⟨gb475, 0, none⟩ = some (.slice Ao9 t472.length co9) := (blk_cell BK475.out 0).trans rfl
     have hfz29_0 := blk_frozen BK475.out 0
     go_upto_if 34 with (first | ((with_reducible refine gate_callee (f := 20) rfl ?_); refine goesM_ (some 34) rfl rfl Try.func20 #[.agg #[.slice Ao9 t472.length co9]] ?_; (with_reducible refine (spec_ImageOk.calls kj5 _ _ t472 t484 _ ?side1 ?side2 A27.out).mono ?_); (case side1 => repeat (first | exact (Kd.S_reads' HO_476000.out).2.2 | (with_reducible refine Kd.C_alloc ?_ _) | (with_reducible refine Kd.C_drewN ?_ _) | (with_reducible refine Kd.C_drew ?_))); (case side2 => exact (Kd.S_reads' HO_476000.out).2.1); rintro e w30 ⟨rfl, hb⟩; refine ⟨_, rfl, ?_⟩; have n0_ := Aside0.mk (Kd.R_below (kr HO_4.out) hb); have n1_ := Aside0.mk (Kd.S_below (ks HO_476000.out) hb); have n2_ := Aside0.mk (blk_below (g := gb475) (o := .cells #[.slice Ao9 t472.length co9] 29 (0, 0)) (kb BK475.out) hb); have n3_ := Aside0.mk (below_step (bw HB.out) hb); clear HO_4; clear HO_476000; clear BK475; clear HB; have HO_4 := n0_; have HO_476000 := n1_; have BK475 := n2_; have HB := n3_; clear n0_ n1_ n2_ n3_; (try clear hb); (try clear hb2); (try clear hk); (try clear hi)))
     (try simp only [Act.put, List.setIfInBounds_toArray, List.set_cons_zero, List.set_cons_succ])
     go_cut [] (fun wc => ∃ (kq : Nat), Aside0 (laws_FnImage.j1 kq l0 = some r) ∧ Aside0 (kq ≤ kj5) ∧ Aside0 (Kd.S (cutK 3 (Kd.int .i64)) 30 wc w.heap.size (fun _ => True) (.slice Ao9 t472.length co9) t472) ∧ Aside0 (wc.heap[gb475]? = some (.cells #[(.slice Ao9 t472.length co9)] 29 (0, 0))) ∧ Aside0 (Below w.heap.size w wc))
     case first =>
      have H := HC28.out
      clear HC28
      by_cases c31 : t484 = true
      ·subst c31
       have H1 : ((impl_ImageRead.f kj5 t476).bind fun bt485 => (if bt485.2 = 0 then ((laws_sameBanks.f kj5 bt485.1 t472).bind fun t490 => (if t490 = true then (laws_FnImage.j1 kj5 l0) else (some false))) else (some false))) = some r := by rw [if_pos rfl] at H; exact H
       clear H
       have H := H1
       clear H1
       replace H := Option.bind_eq_some_iff.mp H
       obtain ⟨⟨t485, t488⟩, A320, H⟩ := H
       replace H : (if t488 = 0 then ((laws_sameBanks.f kj5 t485 t472).bind fun t490 => (if t490 = true then (laws_FnImage.j1 kj5 l0) else (some false))) else (some false)) = some r := H
       have A32 := Aside0.mk A320
       clear A320
       by_cases c33 : t488 = 0
       ·rw [if_pos c33] at H
        have c33b0 : (t488 == 0) = true := beq_iff_eq.mpr c33
        have c33b1 : (t488 != 0) = false := bne_eq_false_iff_eq.mpr c33
        clear c33
        (first | rw [c33b0] | (simp only [i64_w, i32_w]; rw [c33b0]) | skip)
        replace H := Option.bind_eq_some_iff.mp H
        obtain ⟨t490, A340, H⟩ := H
        replace H : (if t490 = true then (laws_FnImage.j1 kj5 l0) else (some false)) = some r := H
        have A34 := Aside0.mk A340
        clear A340
        by_cases c35 : t490 = true
        ·subst c35
         have H1 : (laws_FnImage.j1 kj5 l0) = some r := by rw [if_pos rfl] at H; exact H
         clear H
         have H := H1
         clear H1
         have H' := Aside0.mk H
         clear H
         obtain ⟨Ao36, co36, eo36⟩ := Kd.R_slice HO_4.out
         subst eo36
         go_wp2_with (first | ((with_reducible refine gate_callee (f := 21) rfl ?_); refine goesM_ (some 37) rfl rfl Try.func21 #[.slice Ao36 t476.length co36] ?_; (with_reducible refine (impl_ImageRead.calls kj5 _ _ t476 t485 t488 _ ?side1 ?side2 A32.out).mono ?_); (case side1 => repeat (first | exact (Kd.R_reads' HO_4.out).2.2 | (with_reducible refine Kd.C_alloc ?_ _) | (with_reducible refine Kd.C_drewN ?_ _) | (with_reducible refine Kd.C_drew ?_))); (case side2 => exact (Kd.R_reads' HO_4.out).2.1); rintro e w37 ⟨v486, rfl, ho0, hb⟩; refine ⟨_, rfl, ?_⟩; have n0_ := Aside0.mk (Kd.R_below (kr HO_4.out) hb); have n1_ := Aside0.mk (Kd.S_elder' (ks HO_476000.out) (Kd.S_base ho0) hb); have n2_ := Aside0.mk (Kd.S_lower (Kd.S_new' ho0 (Kd.S_lt (ks HO_476000.out))) (below_size (bw HB.out))); have n3_ := Aside0.mk (blk_below (g := gb475) (o := .cells #[.slice Ao9 t472.length co9] 29 (0, 0)) (kb BK475.out) hb); have n4_ := Aside0.mk (below_step (bw HB.out) hb); clear HO_4; clear HO_476000; clear BK475; clear HB; have HO_4 := n0_; have HO_476000 := n1_; have HO487 := n2_; have BK475 := n3_; have HB := n4_; clear n0_ n1_ n2_ n3_ n4_; (try clear hb); (try clear hb2); (try clear hk); (try clear hi); (try clear ho0)) | ((with_reducible refine gate_dst (N := 5) rfl ?_); (try (refine gate_guard (by rfl) ?_; dsimp only)); refine bx (N := 5) (cs := #[.slice none 0 0]) (t := 29) ?_; intro gb489 hg w38 hbox hb; have n0_ := Aside0.mk (Kd.R_below (kr HO_4.out) hb); have n1_ := Aside0.mk (Kd.S_below (ks HO_476000.out) hb); have n2_ := Aside0.mk (Kd.S_below (ks HO487.out) hb); have n3_ := Aside0.mk (blk_below (g := gb475) (o := .cells #[.slice Ao9 t472.length co9] 29 (0, 0)) (kb BK475.out) hb); have n4_ := Aside0.mk (below_step (bw HB.out) hb); have n5_ := Aside0.mk (hbox); have n6_ := Aside0.mk ((gs hg (bw HB.out))); have n7_ := Aside0.mk ((gs hg (bw HB.out))); have n8_ := Aside0.mk ((ga hg BK475.out)); have n9_ := Aside0.mk ((gc hg BK475.out)); clear HO_4; clear HO_476000; clear HO487; clear BK475; clear HB; have HO_4 := n0_; have HO_476000 := n1_; have HO487 := n2_; have BK475 := n3_; have HB := n4_; have BK489 := n5_; have GW489 := n6_; have GE489 := n7_; have NB475_489 := n8_; have NB489_475 := n9_; clear n0_ n1_ n2_ n3_ n4_ n5_ n6_ n7_ n8_ n9_; clear hb hbox hg; obtain ⟨Ao39, co39, eo39⟩ := Kd.S_slice HO487.out; subst eo39; have hnb40 := NB489_475.out; have hnc40 := NB475_489.out; have hcz41_0 : w38.cell? ⟨gb489, 0, none⟩ = some (.slice none 0 0) := (blk_cell BK489.out 0).trans rfl; have hfz41_0 := blk_frozen BK489.out 0; have hcz42_0 : w38.cell? ⟨gb475, 0, none⟩ = some (.slice Ao9 t472.length co9) := (blk_cell BK475.out 0).trans rfl; have hfz42_0 := blk_frozen BK475.out 0) | (go_at_call 22; (with_reducible refine (laws_sameBanks.calls kj5 _ _ t485 _ _ t472 true _ ?side1 ?side2 ?side3 ?side4 A34.out).mono ?_); (case side1 => refine (Kd.S_reads' (e := 30) (base := w.heap.size) (ok := fun k_ => (True ∧ some k_ ≠ (.slice Ao9 t472.length co9 : Value).ownBlock)) (n := t485.length) (c := co39) ?_).2.2; exact (ks ((Kd.S_mono (Kd.S_far (p := ⟨gb489, 0, none⟩) (Kd.S_types HO487.out BK489.out (by decide)) (fun _ hk => hk.2) (.slice Ao39 t485.length co39)) (fun _ h_ => h_.1))))); (case side2 => exact (Kd.S_reads' HO487.out).2.1); (case side3 => refine (Kd.S_reads' (d := cutK 3 (Kd.int .i64)) (e := 30) (base := w.heap.size) (ok := fun k_ => (True ∧ some k_ ≠ (.slice Ao39 t485.length co39 : Value).ownBlock)) (n := t472.length) (c := co9) ?_).2.2; exact (ks ((Kd.S_mono (Kd.S_far (p := ⟨gb489, 0, none⟩) (Kd.S_types HO_476000.out BK489.out (by decide)) (fun _ hk => hk.2) (.slice Ao39 t485.length co39)) (fun _ h_ => h_.1))))); (case side4 => exact (Kd.S_reads' HO_476000.out).2.1); rintro e w43 ⟨rfl, hb⟩; have n0_ := Aside0.mk (Kd.R_below (kr ((Kd.R_mono (Kd.R_far (p := ⟨gb489, 0, none⟩) (Kd.R_types HO_4.out BK489.out (by decide)) (fun _ hk => hk.2) (.slice Ao39 t485.length co39)) (fun _ h_ => h_.1)))) hb); have n1_ := Aside0.mk (Kd.S_below (ks ((Kd.S_mono (Kd.S_far (p := ⟨gb489, 0, none⟩) (Kd.S_types HO_476000.out BK489.out (by decide)) (fun _ hk => hk.2) (.slice Ao39 t485.length co39)) (fun _ h_ => h_.1)))) hb); have n2_ := Aside0.mk (Kd.S_below (ks ((Kd.S_mono (Kd.S_far (p := ⟨gb489, 0, none⟩) (Kd.S_types HO487.out BK489.out (by decide)) (fun _ hk => hk.2) (.slice Ao39 t485.length co39)) (fun _ h_ => h_.1)))) hb); have n3_ := Aside0.mk (blk_below (g := gb475) (o := .cells #[.slice Ao9 t472.length co9] 29 (0, 0)) (kf BK475.out) hb); have n4_ := Aside0.mk (blk_below (g := gb489) (o := .cells #[.slice Ao39 t485.length co39] 29 (0, 0)) (kt BK489.out) hb); have n5_ := Aside0.mk (below_step (bw HB.out) hb); clear HO_4; clear HO_476000; clear HO487; clear BK475; clear BK489; clear HB; have HO_4 := n0_; have HO_476000 := n1_; have HO487 := n2_; have BK475 := n3_; have BK489 := n4_; have HB := n5_; clear n0_ n1_ n2_ n3_ n4_ n5_; (try clear hb); (try clear hb2); (try clear hk); (try clear hi)))
         go_meet
         case rel => exact ⟨_, H', ⟨by have := HJ5.out; first | omega | exact Nat.le_refl _⟩, ⟨ks (Kd.S_mono HO_476000.out (fun _ hk => trivial))⟩, ⟨kb BK475.out⟩, ⟨bw HB.out⟩⟩
        ·replace c35 := Bool.eq_false_iff.mpr c35
         subst c35
         have H1 : (some false) = some r := by rw [if_neg (show ¬ (false = true) by decide)] at H; exact H
         clear H
         have H := H1
         clear H1
         exact absurd ((Option.some.inj H).trans hrt) (by decide)
       ·rw [if_neg c33] at H
        have c33b0 : (t488 == 0) = false := beq_eq_false_iff_ne.mpr c33
        have c33b1 : (t488 != 0) = true := bne_iff_ne.mpr c33
        (first | rw [c33b0] | (simp only [i64_w, i32_w]; rw [c33b0]) | skip)
        exact absurd ((Option.some.inj H).trans hrt) (by decide)
      ·replace c31 := Bool.eq_false_iff.mpr c31
       subst c31
       have H1 : (laws_FnImage.j1 kj5 l0) = some r := by rw [if_neg (show ¬ (false = true) by decide)] at H; exact H
       clear H
       have H := H1
       clear H1
       have H' := Aside0.mk H
       clear H
       go_wp2
       go_meet
       case rel => exact ⟨_, H', ⟨by have := HJ5.out; first | omega | exact Nat.le_refl _⟩, ⟨ks HO_476000.out⟩, ⟨kb BK475.out⟩, ⟨bw HB.out⟩⟩
     case rest =>
      clear HC28; (try clear c1); (try clear c2); (try clear p2); (try clear c3); (try clear c4); (try clear c5); (try clear c9); (try clear c13); (try clear c13b0); (try clear c13b1); (try clear c13b2); (try clear c16); (try clear c17); (try clear c18); (try clear c19); (try clear c20); (try clear c21); (try clear c26); (try clear c31); (try clear c33); (try clear c33b0); (try clear c33b1); (try clear c35); (try clear c40); (try clear c48); (try clear c56); (try clear hcz10_0); (try clear hcz29_0); (try clear hcz41_0); (try clear hcz42_0); (try clear hcz49_0); (try clear hcz50_0); (try clear hcz57_0); (try clear hfz10_0); (try clear hfz29_0); (try clear hfz41_0); (try clear hfz42_0); (try clear hfz49_0); (try clear hfz50_0); (try clear hfz57_0); (try clear p2)
      obtain ⟨kq, HA, HJ27, HO_476000, BK475, HB⟩ := hcut
      cases kq with
      | zero => exact absurd HA.out (by simp [laws_FnImage.j1])
      | succ kj27 =>
       have H := HA.out
       clear HA
       simp only [laws_FnImage.j1] at H
       replace H := Option.bind_eq_some_iff.mp H
       obtain ⟨t491, A580, H⟩ := H
       replace H : ((impl_ImageRead.f kj27 t491).bind fun bt494 => ((spec_ImageRead.f kj27 t491).bind fun bt499 => (if bt494.2 = bt499.2 then ((spec_DrawBankOf.f kj27 l0).bind fun bt504 => ((impl_BankOf.f kj27 bt504.1 bt504.2).bind fun t509 => ((spec_BankOf.f kj27 bt504.1 bt504.2).bind fun t512 => ((laws_sameInts.f kj27 t509 t512).bind fun t515 => (if t515 = true then (if bt494.2 = 0 then ((impl_ImageBytes.f kj27 bt494.1).bind fun t516 => (some ((strOfNums t516).toList == (strOfNums t491).toList))) else (if (bt494.1.length : Int) = 0 then (some true) else (some false))) else (some false)))))) else (some false)))) = some r := H
       have A58 := Aside0.mk A580
       clear A580
       replace H := Option.bind_eq_some_iff.mp H
       obtain ⟨⟨t494, t497⟩, A590, H⟩ := H
       replace H : ((spec_ImageRead.f kj27 t491).bind fun bt499 => (if t497 = bt499.2 then ((spec_DrawBankOf.f kj27 l0).bind fun bt504 => ((impl_BankOf.f kj27 bt504.1 bt504.2).bind fun t509 => ((spec_BankOf.f kj27 bt504.1 bt504.2).bind fun t512 => ((laws_sameInts.f kj27 t509 t512).bind fun t515 => (if t515 = true then (if t497 = 0 then ((impl_ImageBytes.f kj27 t494).bind fun t516 => (some ((strOfNums t516).toList == (strOfNums t491).toList))) else (if (t494.length : Int) = 0 then (some true) else (some false))) else (some false)))))) else (some false))) = some r := H
       have A59 := Aside0.mk A590
       clear A590
       replace H := Option.bind_eq_some_iff.mp H
       obtain ⟨⟨t499, t502⟩, A600, H⟩ := H
       replace H : (if t497 = t502 then ((spec_DrawBankOf.f kj27 l0).bind fun bt504 => ((impl_BankOf.f kj27 bt504.1 bt504.2).bind fun t509 => ((spec_BankOf.f kj27 bt504.1 bt504.2).bind fun t512 => ((laws_sameInts.f kj27 t509 t512).bind fun t515 => (if t515 = true then (if t497 = 0 then ((impl_ImageBytes.f kj27 t494).bind fun t516 => (some ((strOfNums t516).toList == (strOfNums t491).toList))) else (if (t494.length : Int) = 0 then (some true) else (some false))) else (some false)))))) else (some false)) = some r := H
       have A60 := Aside0.mk A600
       clear A600
       by_cases c61 : t497 = t502
       ·rw [if_pos c61] at H
        have c61b0 : (t497 == t502) = true := beq_iff_eq.mpr c61
        have c61b1 : (t497 != t502) = false := bne_eq_false_iff_eq.mpr c61
        clear c61
        replace H := Option.bind_eq_some_iff.mp H
        obtain ⟨⟨t504, t507⟩, A620, H⟩ := H
        replace H : ((impl_BankOf.f kj27 t504 t507).bind fun t509 => ((spec_BankOf.f kj27 t504 t507).bind fun t512 => ((laws_sameInts.f kj27 t509 t512).bind fun t515 => (if t515 = true then (if t497 = 0 then ((impl_ImageBytes.f kj27 t494).bind fun t516 => (some ((strOfNums t516).toList == (strOfNums t491).toList))) else (if (t494.length : Int) = 0 then (some true) else (some false))) else (some false))))) = some r := H
        have A62 := Aside0.mk A620
        clear A620
        replace H := Option.bind_eq_some_iff.mp H
        obtain ⟨t509, A630, H⟩ := H
        replace H : ((spec_BankOf.f kj27 t504 t507).bind fun t512 => ((laws_sameInts.f kj27 t509 t512).bind fun t515 => (if t515 = true then (if t497 = 0 then ((impl_ImageBytes.f kj27 t494).bind fun t516 => (some ((strOfNums t516).toList == (strOfNums t491).toList))) else (if (t494.length : Int) = 0 then (some true) else (some false))) else (some false)))) = some r := H
        have A63 := Aside0.mk A630
        clear A630
        replace H := Option.bind_eq_some_iff.mp H
        obtain ⟨t512, A640, H⟩ := H
        replace H : ((laws_sameInts.f kj27 t509 t512).bind fun t515 => (if t515 = true then (if t497 = 0 then ((impl_ImageBytes.f kj27 t494).bind fun t516 => (some ((strOfNums t516).toList == (strOfNums t491).toList))) else (if (t494.length : Int) = 0 then (some true) else (some false))) else (some false))) = some r := H
        have A64 := Aside0.mk A640
        clear A640
        replace H := Option.bind_eq_some_iff.mp H
        obtain ⟨t515, A650, H⟩ := H
        replace H : (if t515 = true then (if t497 = 0 then ((impl_ImageBytes.f kj27 t494).bind fun t516 => (some ((strOfNums t516).toList == (strOfNums t491).toList))) else (if (t494.length : Int) = 0 then (some true) else (some false))) else (some false)) = some r := H
        have A65 := Aside0.mk A650
        clear A650
        by_cases c66 : t515 = true
        ·subst c66
         have H1 : (if t497 = 0 then ((impl_ImageBytes.f kj27 t494).bind fun t516 => (some ((strOfNums t516).toList == (strOfNums t491).toList))) else (if (t494.length : Int) = 0 then (some true) else (some false))) = some r := by rw [if_pos rfl] at H; exact H
         clear H
         have H := H1
         clear H1
         by_cases c67 : t497 = 0
         ·rw [if_pos c67] at H
          have c67b0 : (t497 == 0) = true := beq_iff_eq.mpr c67
          have c67b1 : (t497 != 0) = false := bne_eq_false_iff_eq.mpr c67
          clear c67
          replace H := Option.bind_eq_some_iff.mp H
          obtain ⟨t516, A680, H⟩ := H
          replace H : (some ((strOfNums t516).toList == (strOfNums t491).toList)) = some r := H
          have A68 := Aside0.mk A680
          clear A680; clear hrt
          obtain rfl := Option.some.inj H
          try go_wp2_with (first | ((with_reducible refine gate_callee (f := 23) rfl ?_); refine goesM_ (some 49) rfl rfl Try.func23 #[.slice A0 l0.length c0] ?_; (with_reducible refine (spec_DrawImageRead.calls kj27 _ _ l0 t491 _ ?side1 ?side2 A58.out).mono ?_); (case side1 => exact kc (Kd.C_below HR0.out HB.out)); (case side2 => exact HC0.out); rintro e w69 ⟨v492, rfl, ho0, hb⟩; refine ⟨_, rfl, ?_⟩; have n0_ := Aside0.mk (Kd.S_below (ks HO_476000.out) hb); have n1_ := Aside0.mk (Kd.R_lower ho0 (below_size (bw HB.out))); have n2_ := Aside0.mk (blk_below (g := gb475) (o := .cells #[.slice Ao9 t472.length co9] 29 (0, 0)) (kb BK475.out) hb); have n3_ := Aside0.mk (below_step (bw HB.out) hb); clear HO_476000; clear BK475; clear HB; have HO_476000 := n0_; have HO493 := n1_; have BK475 := n2_; have HB := n3_; clear n0_ n1_ n2_ n3_; (try clear hb); (try clear hb2); (try clear hk); (try clear hi); (try clear ho0); obtain ⟨Ao70, co70, eo70⟩ := Kd.R_slice HO493.out; subst eo70) | ((with_reducible refine gate_callee (f := 21) rfl ?_); refine goesM_ (some 52) rfl rfl Try.func21 #[.slice Ao70 t491.length co70] ?_; (with_reducible refine (impl_ImageRead.calls kj27 _ _ t491 t494 t497 _ ?side1 ?side2 A59.out).mono ?_); (case side1 => repeat (first | exact (Kd.R_reads' HO493.out).2.2 | (with_reducible refine Kd.C_alloc ?_ _) | (with_reducible refine Kd.C_drewN ?_ _) | (with_reducible refine Kd.C_drew ?_))); (case side2 => exact (Kd.R_reads' HO493.out).2.1); rintro e w71 ⟨v495, rfl, ho0, hb⟩; refine ⟨_, rfl, ?_⟩; have n0_ := Aside0.mk (Kd.S_elder' (ks HO_476000.out) (Kd.S_base ho0) hb); have n1_ := Aside0.mk (Kd.R_below (kr HO493.out) hb); have n2_ := Aside0.mk (Kd.S_lower (Kd.S_new' ho0 (Kd.S_lt (ks HO_476000.out))) (below_size (bw HB.out))); have n3_ := Aside0.mk (blk_below (g := gb475) (o := .cells #[.slice Ao9 t472.length co9] 29 (0, 0)) (kb BK475.out) hb); have n4_ := Aside0.mk (below_step (bw HB.out) hb); clear HO_476000; clear HO493; clear BK475; clear HB; have HO_476000 := n0_; have HO493 := n1_; have HO496 := n2_; have BK475 := n3_; have HB := n4_; clear n0_ n1_ n2_ n3_ n4_; (try clear hb); (try clear hb2); (try clear hk); (try clear hi); (try clear ho0)) | ((with_reducible refine gate_dst (N := 8) rfl ?_); (try (refine gate_guard (by rfl) ?_; dsimp only)); refine bx (N := 8) (cs := #[.slice none 0 0]) (t := 29) ?_; intro gb498 hg w72 hbox hb; have n0_ := Aside0.mk (Kd.S_below (ks HO_476000.out) hb); have n1_ := Aside0.mk (Kd.R_below (kr HO493.out) hb); have n2_ := Aside0.mk (Kd.S_below (ks HO496.out) hb); have n3_ := Aside0.mk (blk_below (g := gb475) (o := .cells #[.slice Ao9 t472.length co9] 29 (0, 0)) (kb BK475.out) hb); have n4_ := Aside0.mk (below_step (bw HB.out) hb); have n5_ := Aside0.mk (hbox); have n6_ := Aside0.mk ((gs hg (bw HB.out))); have n7_ := Aside0.mk ((gs hg (bw HB.out))); have n8_ := Aside0.mk ((ga hg BK475.out)); have n9_ := Aside0.mk ((gc hg BK475.out)); clear HO_476000; clear HO493; clear HO496; clear BK475; clear HB; have HO_476000 := n0_; have HO493 := n1_; have HO496 := n2_; have BK475 := n3_; have HB := n4_; have BK498 := n5_; have GW498 := n6_; have GE498 := n7_; have NB475_498 := n8_; have NB498_475 := n9_; clear n0_ n1_ n2_ n3_ n4_ n5_ n6_ n7_ n8_ n9_; clear hb hbox hg; obtain ⟨Ao73, co73, eo73⟩ := Kd.S_slice HO496.out; subst eo73; have hnb74 := NB498_475.out; have hnc74 := NB475_498.out; have hcz75_0 : w72.cell? ⟨gb498, 0, none⟩ = some (.slice none 0 0) := (blk_cell BK498.out 0).trans rfl; have hfz75_0 := blk_frozen BK498.out 0) | ((with_reducible refine gate_callee (f := 24) rfl ?_); refine goesM_ (some 57) rfl rfl Try.func24 #[.slice Ao70 t491.length co70] ?_; (with_reducible refine (spec_ImageRead.calls kj27 _ _ t491 t499 t502 _ ?side1 ?side2 A60.out).mono ?_); (case side1 => refine (Kd.R_reads' (e := 5) (base := w.heap.size) (ok := fun k_ => True) (n := t491.length) (c := co70) ?_).2.2; exact (kr ((Kd.R_mono (Kd.R_far (p := ⟨gb498, 0, none⟩) (Kd.R_types HO493.out BK498.out (by decide)) (fun _ hk => hk.2) (.slice Ao73 t494.length co73)) (fun _ h_ => h_.1))))); (case side2 => exact (Kd.R_reads' HO493.out).2.1); rintro e w76 ⟨v500, rfl, ho0, hb⟩; refine ⟨_, rfl, ?_⟩; have n0_ := Aside0.mk (Kd.S_elder' (ks ((Kd.S_mono (Kd.S_far (p := ⟨gb498, 0, none⟩) (Kd.S_types HO_476000.out BK498.out (by decide)) (fun _ hk => hk.2) (.slice Ao73 t494.length co73)) (fun _ h_ => h_.1)))) (Kd.S_base ho0) hb); have n1_ := Aside0.mk (Kd.R_below (kr ((Kd.R_mono (Kd.R_far (p := ⟨gb498, 0, none⟩) (Kd.R_types HO493.out BK498.out (by decide)) (fun _ hk => hk.2) (.slice Ao73 t494.length co73)) (fun _ h_ => h_.1)))) hb); have n2_ := Aside0.mk (Kd.S_elder' (ks ((Kd.S_mono (Kd.S_far (p := ⟨gb498, 0, none⟩) (Kd.S_types HO496.out BK498.out (by decide)) (fun _ hk => hk.2) (.slice Ao73 t494.length co73)) (fun _ h_ => h_.1)))) (Kd.S_base ho0) hb); have n3_ := Aside0.mk (Kd.S_lower (Kd.S_new' (Kd.S_new' ho0 (Kd.S_lt (ks ((Kd.S_mono (Kd.S_far (p := ⟨gb498, 0, none⟩) (Kd.S_types HO_476000.out BK498.out (by decide)) (fun _ hk => hk.2) (.slice Ao73 t494.length co73)) (fun _ h_ => h_.1)))))) (Kd.S_lt (ks ((Kd.S_mono (Kd.S_far (p := ⟨gb498, 0, none⟩) (Kd.S_types HO496.out BK498.out (by decide)) (fun _ hk => hk.2) (.slice Ao73 t494.length co73)) (fun _ h_ => h_.1)))))) (below_size (bw HB.out))); have n4_ := Aside0.mk (blk_below (g := gb475) (o := .cells #[.slice Ao9 t472.length co9] 29 (0, 0)) (kf BK475.out) hb); have n5_ := Aside0.mk (blk_below (g := gb498) (o := .cells #[.slice Ao73 t494.length co73] 29 (0, 0)) (kt BK498.out) hb); have n6_ := Aside0.mk (below_step (bw HB.out) hb); clear HO_476000; clear HO493; clear HO496; clear BK475; clear BK498; clear HB; have HO_476000 := n0_; have HO493 := n1_; have HO496 := n2_; have HO501 := n3_; have BK475 := n4_; have BK498 := n5_; have HB := n6_; clear n0_ n1_ n2_ n3_ n4_ n5_ n6_; (try clear hb); (try clear hb2); (try clear hk); (try clear hi); (try clear ho0)) | ((with_reducible refine gate_dst (N := 10) rfl ?_); (try (refine gate_guard (by rfl) ?_; dsimp only)); refine bx (N := 10) (cs := #[.slice none 0 0]) (t := 29) ?_; intro gb503 hg w77 hbox hb; have n0_ := Aside0.mk (Kd.S_below (ks HO_476000.out) hb); have n1_ := Aside0.mk (Kd.R_below (kr HO493.out) hb); have n2_ := Aside0.mk (Kd.S_below (ks HO496.out) hb); have n3_ := Aside0.mk (Kd.S_below (ks HO501.out) hb); have n4_ := Aside0.mk (blk_below (g := gb475) (o := .cells #[.slice Ao9 t472.length co9] 29 (0, 0)) (kb BK475.out) hb); have n5_ := Aside0.mk (blk_below (g := gb498) (o := .cells #[.slice Ao73 t494.length co73] 29 (0, 0)) (kb BK498.out) hb); have n6_ := Aside0.mk (below_step (bw HB.out) hb); have n7_ := Aside0.mk (hbox); have n8_ := Aside0.mk ((gs hg (bw HB.out))); have n9_ := Aside0.mk ((gs hg (bw HB.out))); have n10_ := Aside0.mk ((ga hg BK475.out)); have n11_ := Aside0.mk ((gc hg BK475.out)); have n12_ := Aside0.mk ((ga hg BK498.out)); have n13_ := Aside0.mk ((gc hg BK498.out)); clear HO_476000; clear HO493; clear HO496; clear HO501; clear BK475; clear BK498; clear HB; have HO_476000 := n0_; have HO493 := n1_; have HO496 := n2_; have HO501 := n3_; have BK475 := n4_; have BK498 := n5_; have HB := n6_; have BK503 := n7_; have GW503 := n8_; have GE503 := n9_; have NB475_503 := n10_; have NB503_475 := n11_; have NB498_503 := n12_; have NB503_498 := n13_; clear n0_ n1_ n2_ n3_ n4_ n5_ n6_ n7_ n8_ n9_ n10_ n11_ n12_ n13_; clear hb hbox hg; obtain ⟨Ao78, co78, eo78⟩ := Kd.S_slice HO501.out; subst eo78; have hnb79 := NB503_475.out; have hnc79 := NB475_503.out; have hnb80 := NB503_498.out; have hnc80 := NB498_503.out; have hcz81_0 : w77.cell? ⟨gb503, 0, none⟩ = some (.slice none 0 0) := (blk_cell BK503.out 0).trans rfl; have hfz81_0 := blk_frozen BK503.out 0) | ((with_reducible refine gate_callee (f := 25) rfl ?_); refine goesM_ (some 65) rfl rfl Try.func25 #[.slice A0 l0.length c0] ?_; (with_reducible refine (spec_DrawBankOf.calls kj27 _ _ l0 t504 t507 _ ?side1 ?side2 A62.out).mono ?_); (case side1 => exact Kd.C_below HR0.out (bw HB.out)); (case side2 => exact HC0.out); rintro e w82 ⟨v505, rfl, ho0, hb⟩; refine ⟨_, rfl, ?_⟩; have n0_ := Aside0.mk (Kd.S_elder' (ks ((Kd.S_mono (Kd.S_far (p := ⟨gb503, 0, none⟩) (Kd.S_types HO_476000.out BK503.out (by decide)) (fun _ hk => hk.2) (.slice Ao78 t499.length co78)) (fun _ h_ => h_.1)))) (Kd.S_base ho0) hb); have n1_ := Aside0.mk (Kd.R_below (kr ((Kd.R_mono (Kd.R_far (p := ⟨gb503, 0, none⟩) (Kd.R_types HO493.out BK503.out (by decide)) (fun _ hk => hk.2) (.slice Ao78 t499.length co78)) (fun _ h_ => h_.1)))) hb); have n2_ := Aside0.mk (Kd.S_elder' (ks ((Kd.S_mono (Kd.S_far (p := ⟨gb503, 0, none⟩) (Kd.S_types HO496.out BK503.out (by decide)) (fun _ hk => hk.2) (.slice Ao78 t499.length co78)) (fun _ h_ => h_.1)))) (Kd.S_base ho0) hb); have n3_ := Aside0.mk (Kd.S_elder' (ks ((Kd.S_mono (Kd.S_far (p := ⟨gb503, 0, none⟩) (Kd.S_types HO501.out BK503.out (by decide)) (fun _ hk => hk.2) (.slice Ao78 t499.length co78)) (fun _ h_ => h_.1)))) (Kd.S_base ho0) hb); have n4_ := Aside0.mk (Kd.S_lower (Kd.S_new' (Kd.S_new' (Kd.S_new' ho0 (Kd.S_lt (ks ((Kd.S_mono (Kd.S_far (p := ⟨gb503, 0, none⟩) (Kd.S_types HO_476000.out BK503.out (by decide)) (fun _ hk => hk.2) (.slice Ao78 t499.length co78)) (fun _ h_ => h_.1)))))) (Kd.S_lt (ks ((Kd.S_mono (Kd.S_far (p := ⟨gb503, 0, none⟩) (Kd.S_types HO496.out BK503.out (by decide)) (fun _ hk => hk.2) (.slice Ao78 t499.length co78)) (fun _ h_ => h_.1)))))) (Kd.S_lt (ks ((Kd.S_mono (Kd.S_far (p := ⟨gb503, 0, none⟩) (Kd.S_types HO501.out BK503.out (by decide)) (fun _ hk => hk.2) (.slice Ao78 t499.length co78)) (fun _ h_ => h_.1)))))) (below_size (bw HB.out))); have n5_ := Aside0.mk (blk_below (g := gb475) (o := .cells #[.slice Ao9 t472.length co9] 29 (0, 0)) (kf BK475.out) hb); have n6_ := Aside0.mk (blk_below (g := gb498) (o := .cells #[.slice Ao73 t494.length co73] 29 (0, 0)) (kf BK498.out) hb); have n7_ := Aside0.mk (blk_below (g := gb503) (o := .cells #[.slice Ao78 t499.length co78] 29 (0, 0)) (kt BK503.out) hb); have n8_ := Aside0.mk (below_step (bw HB.out) hb); clear HO_476000; clear HO493; clear HO496; clear HO501; clear BK475; clear BK498; clear BK503; clear HB; have HO_476000 := n0_; have HO493 := n1_; have HO496 := n2_; have HO501 := n3_; have HO506 := n4_; have BK475 := n5_; have BK498 := n6_; have BK503 := n7_; have HB := n8_; clear n0_ n1_ n2_ n3_ n4_ n5_ n6_ n7_ n8_; (try clear hb); (try clear hb2); (try clear hk); (try clear hi); (try clear ho0)) | ((with_reducible refine gate_dst (N := 12) rfl ?_); (try (refine gate_guard (by rfl) ?_; dsimp only)); refine bx (N := 12) (cs := #[.slice none 0 0]) (t := 29) ?_; intro gb508 hg w83 hbox hb; have n0_ := Aside0.mk (Kd.S_below (ks HO_476000.out) hb); have n1_ := Aside0.mk (Kd.R_below (kr HO493.out) hb); have n2_ := Aside0.mk (Kd.S_below (ks HO496.out) hb); have n3_ := Aside0.mk (Kd.S_below (ks HO501.out) hb); have n4_ := Aside0.mk (Kd.S_below (ks HO506.out) hb); have n5_ := Aside0.mk (blk_below (g := gb475) (o := .cells #[.slice Ao9 t472.length co9] 29 (0, 0)) (kb BK475.out) hb); have n6_ := Aside0.mk (blk_below (g := gb498) (o := .cells #[.slice Ao73 t494.length co73] 29 (0, 0)) (kb BK498.out) hb); have n7_ := Aside0.mk (blk_below (g := gb503) (o := .cells #[.slice Ao78 t499.length co78] 29 (0, 0)) (kb BK503.out) hb); have n8_ := Aside0.mk (below_step (bw HB.out) hb); have n9_ := Aside0.mk (hbox); have n10_ := Aside0.mk ((gs hg (bw HB.out))); have n11_ := Aside0.mk ((gs hg (bw HB.out))); have n12_ := Aside0.mk ((ga hg BK475.out)); have n13_ := Aside0.mk ((gc hg BK475.out)); have n14_ := Aside0.mk ((ga hg BK498.out)); have n15_ := Aside0.mk ((gc hg BK498.out)); have n16_ := Aside0.mk ((ga hg BK503.out)); have n17_ := Aside0.mk ((gc hg BK503.out)); clear HO_476000; clear HO493; clear HO496; clear HO501; clear HO506; clear BK475; clear BK498; clear BK503; clear HB; have HO_476000 := n0_; have HO493 := n1_; have HO496 := n2_; have HO501 := n3_; have HO506 := n4_; have BK475 := n5_; have BK498 := n6_; have BK503 := n7_; have HB := n8_; have BK508 := n9_; have GW508 := n10_; have GE508 := n11_; have NB475_508 := n12_; have NB508_475 := n13_; have NB498_508 := n14_; have NB508_498 := n15_; have NB503_508 := n16_; have NB508_503 := n17_; clear n0_ n1_ n2_ n3_ n4_ n5_ n6_ n7_ n8_ n9_ n10_ n11_ n12_ n13_ n14_ n15_ n16_ n17_; clear hb hbox hg; obtain ⟨Ao84, co84, eo84⟩ := Kd.S_slice HO506.out; subst eo84; have hnb85 := NB508_475.out; have hnc85 := NB475_508.out; have hnb86 := NB508_498.out; have hnc86 := NB498_508.out; have hnb87 := NB508_503.out; have hnc87 := NB503_508.out; have hcz88_0 : w83.cell? ⟨gb508, 0, none⟩ = some (.slice none 0 0) := (blk_cell BK508.out 0).trans rfl; have hfz88_0 := blk_frozen BK508.out 0))
          have n0_ : Aside0 (Kd.S (cutK 3 (Kd.int .i64)) 30 (w83.setCell ⟨gb508, 0, none⟩ (.slice Ao84 t504.length co84)) w.heap.size (fun k_ => some k_ ≠ (.slice Ao73 t494.length co73 : Value).ownBlock ∧ some k_ ≠ (.slice Ao78 t499.length co78 : Value).ownBlock ∧ some k_ ≠ (.slice Ao84 t504.length co84 : Value).ownBlock) (.slice Ao9 t472.length co9) t472) := ⟨ks (Kd.S_mono (Kd.S_far (p := ⟨gb508, 0, none⟩) (Kd.S_types HO_476000.out BK508.out (by decide)) (fun _ hk => hk.2) (.slice Ao84 t504.length co84)) (fun _ hk => ⟨hk.1.1.1.2, ⟨hk.1.1.2, hk.1.2⟩⟩))⟩
          have n1_ : Aside0 (Kd.R (Kd.int .u8) 5 (w83.setCell ⟨gb508, 0, none⟩ (.slice Ao84 t504.length co84)) w.heap.size (fun _ => True) (.slice Ao70 t491.length co70) t491) := ⟨kr (Kd.R_mono (Kd.R_far (p := ⟨gb508, 0, none⟩) (Kd.R_types HO493.out BK508.out (by decide)) (fun _ hk => hk.2) (.slice Ao84 t504.length co84)) (fun _ hk => trivial))⟩
          have n2_ : Aside0 (Kd.S (Kd.slice 3 (Kd.int .i64)) 30 (w83.setCell ⟨gb508, 0, none⟩ (.slice Ao84 t504.length co84)) w.heap.size (fun k_ => some k_ ≠ (.slice Ao9 t472.length co9 : Value).ownBlock ∧ some k_ ≠ (.slice Ao78 t499.length co78 : Value).ownBlock ∧ some k_ ≠ (.slice Ao84 t504.length co84 : Value).ownBlock) (.slice Ao73 t494.length co73) t494) := ⟨ks (Kd.S_mono (Kd.S_far (p := ⟨gb508, 0, none⟩) (Kd.S_types HO496.out BK508.out (by decide)) (fun _ hk => hk.2) (.slice Ao84 t504.length co84)) (fun _ hk => ⟨hk.1.1.1.2, ⟨hk.1.1.2, hk.1.2⟩⟩))⟩
          have n3_ : Aside0 (Kd.S (Kd.slice 3 (Kd.int .i64)) 30 (w83.setCell ⟨gb508, 0, none⟩ (.slice Ao84 t504.length co84)) w.heap.size (fun k_ => some k_ ≠ (.slice Ao9 t472.length co9 : Value).ownBlock ∧ some k_ ≠ (.slice Ao73 t494.length co73 : Value).ownBlock ∧ some k_ ≠ (.slice Ao84 t504.length co84 : Value).ownBlock) (.slice Ao78 t499.length co78) t499) := ⟨ks (Kd.S_mono (Kd.S_far (p := ⟨gb508, 0, none⟩) (Kd.S_types HO501.out BK508.out (by decide)) (fun _ hk => hk.2) (.slice Ao84 t504.length co84)) (fun _ hk => ⟨hk.1.1.1.2, ⟨hk.1.1.2, hk.1.2⟩⟩))⟩
          have n4_ : Aside0 (Kd.S (cutK 3 (Kd.int .i64)) 30 (w83.setCell ⟨gb508, 0, none⟩ (.slice Ao84 t504.length co84)) w.heap.size (fun k_ => some k_ ≠ (.slice Ao9 t472.length co9 : Value).ownBlock ∧ some k_ ≠ (.slice Ao73 t494.length co73 : Value).ownBlock ∧ some k_ ≠ (.slice Ao78 t499.length co78 : Value).ownBlock) (.slice Ao84 t504.length co84) t504) := ⟨ks (Kd.S_mono (Kd.S_far (p := ⟨gb508, 0, none⟩) (Kd.S_types HO506.out BK508.out (by decide)) (fun _ hk => hk.2) (.slice Ao84 t504.length co84)) (fun _ hk => ⟨hk.1.1.1.2, ⟨hk.1.1.2, hk.1.2⟩⟩))⟩
          have n5_ : Aside0 ((w83.setCell ⟨gb508, 0, none⟩ (.slice Ao84 t504.length co84)).heap[gb475]? = some (.cells #[.slice Ao9 t472.length co9] 29 (0, 0))) := ⟨kf BK475.out⟩
          have n6_ : Aside0 ((w83.setCell ⟨gb508, 0, none⟩ (.slice Ao84 t504.length co84)).heap[gb498]? = some (.cells #[.slice Ao73 t494.length co73] 29 (0, 0))) := ⟨kf BK498.out⟩
          have n7_ : Aside0 ((w83.setCell ⟨gb508, 0, none⟩ (.slice Ao84 t504.length co84)).heap[gb503]? = some (.cells #[.slice Ao78 t499.length co78] 29 (0, 0))) := ⟨kf BK503.out⟩
          have n8_ : Aside0 ((w83.setCell ⟨gb508, 0, none⟩ (.slice Ao84 t504.length co84)).heap[gb508]? = some (.cells #[.slice Ao84 t504.length co84] 29 (0, 0))) := ⟨kt BK508.out⟩
          have n9_ : Aside0 (Below w.heap.size w (w83.setCell ⟨gb508, 0, none⟩ (.slice Ao84 t504.length co84))) := ⟨bw HB.out⟩
          (try clear HO_476000); (try clear HO493); (try clear HO496); (try clear HO501); (try clear HO506); (try clear BK475); (try clear BK498); (try clear BK503); (try clear BK508); (try clear HB)
          generalize (w83.setCell ⟨gb508, 0, none⟩ (.slice Ao84 t504.length co84)) = w89 at n0_ n1_ n2_ n3_ n4_ n5_ n6_ n7_ n8_ n9_ ⊢
          have HO_476000 := n0_; have HO493 := n1_; have HO496 := n2_; have HO501 := n3_; have HO506 := n4_; have BK475 := n5_; have BK498 := n6_; have BK503 := n7_; have BK508 := n8_; have HB := n9_; clear n0_ n1_ n2_ n3_ n4_ n5_ n6_ n7_ n8_ n9_
          have n0_ := Aside0.mk (Kd.S_drew HO_476000.out)
          have n1_ := Aside0.mk (Kd.R_drew HO493.out)
          have n2_ := Aside0.mk (Kd.S_drew HO496.out)
          have n3_ := Aside0.mk (Kd.S_drew HO501.out)
          have n4_ := Aside0.mk (Kd.S_drew HO506.out)
          have n5_ := Aside0.mk (blk_drew BK475.out)
          have n6_ := Aside0.mk (blk_drew BK498.out)
          have n7_ := Aside0.mk (blk_drew BK503.out)
          have n8_ := Aside0.mk (blk_drew BK508.out)
          have n9_ := Aside0.mk (below_drew1 HB.out)
          clear HO_476000; clear HO493; clear HO496; clear HO501; clear HO506; clear BK475; clear BK498; clear BK503; clear BK508; clear HB; have HO_476000 := n0_; have HO493 := n1_; have HO496 := n2_; have HO501 := n3_; have HO506 := n4_; have BK475 := n5_; have BK498 := n6_; have BK503 := n7_; have BK508 := n8_; have HB := n9_; clear n0_ n1_ n2_ n3_ n4_ n5_ n6_ n7_ n8_ n9_
          refine start_ (n := 8) (S := fun w' => w'.cell? ⟨gb508, 0, none⟩ = some (.slice Ao84 t504.length co84)) (ds := []) #[false, false, false, false, false, false, false, false] (by kernel_rfl) rfl rfl ((blk_cell BK508.out 0).trans rfl) (fun hHeld => ?_); refine with_tabW laws_FnImage.tab17 laws_FnImage.bits17 (fun HT_ HW_ => ?_)
          generalize w89.drew = w90 at HO_476000 HO493 HO496 HO501 HO506 BK475 BK498 BK503 BK508 HB hHeld ⊢
          refine pure_ (i := 1) (N := some 69) (v := ?_) (a' := ?_) #[false, true, false, false, false, false, false, false] rfl rfl (any_of HT_.out (by kernel_rfl)) (fun _ _ _ h => h) (Or.inl ⟨by rfl, ?_⟩) ?_ ?_
          rotate_left
          ·intro w'
           go_simp
           with_reducible rfl
          rotate_left
          ·simp only [Act.put, List.setIfInBounds_toArray, List.set_cons_zero, List.set_cons_succ, i64_w, i32_w]
           rfl
          refine pure_ (i := 4) (N := some 72) (v := ?_) (a' := ?_) #[false, true, false, false, true, false, false, false] rfl rfl (any_of HT_.out (by kernel_rfl)) (fun _ _ _ h => h) (Or.inl ⟨by rfl, ?_⟩) ?_ ?_
          rotate_left
          ·intro w'
           go_simp
           with_reducible rfl
          rotate_left
          ·simp only [Act.put, List.setIfInBounds_toArray, List.set_cons_zero, List.set_cons_succ, i64_w, i32_w]
           rfl
          refine take_ (i := 0) (N := some 68) (v := ?_) (a' := ?_) #[true, true, false, false, true, false, false, false] rfl rfl (take_ofW HT_.out HW_.out (by kernel_rfl)) (fun _ _ _ h => h) (Or.inl ⟨by rfl, ?_⟩) hHeld ?_ ?_
          rotate_left
          ·intro w' s0
           go_simp
           with_reducible rfl
          rotate_left
          ·simp only [Act.put, List.setIfInBounds_toArray, List.set_cons_zero, List.set_cons_succ, i64_w, i32_w]
           rfl
          refine take_ (i := 3) (N := some 71) (v := ?_) (a' := ?_) #[true, true, false, true, true, false, false, false] rfl rfl (take_ofW HT_.out HW_.out (by kernel_rfl)) (fun _ _ _ h => h) (Or.inl ⟨by rfl, ?_⟩) hHeld ?_ ?_
          rotate_left
          ·intro w' s0
           go_simp
           with_reducible rfl
          rotate_left
          ·simp only [Act.put, List.setIfInBounds_toArray, List.set_cons_zero, List.set_cons_succ, i64_w, i32_w]
           rfl
          refine one_ (i := 2) (N := some 70) #[true, true, true, true, true, false, false, false] rfl rfl (one_of HT_.out (by kernel_rfl)) (by decide) (fun K hK => ?_)
          refine goes_ Try.func27 (by kernel_rfl) rfl #[.agg #[.slice Ao84 t504.length co84], .int .i64 t507] (by rfl) rfl rfl (by (try simp only [List.map_toArray, List.map_cons, List.map_nil]); first | done | rfl | (simp only [List.length_drop, List.length_take]; rfl)) ?_
          with_reducible refine (impl_BankOf.calls kj27 _ _ t504 t507 t509 _ ?side1 ?side2 A63.out).mono ?_
          (case side1 => repeat (first | exact (Kd.S_reads' HO506.out).2.2 | (with_reducible refine Kd.C_alloc ?_ _) | (with_reducible refine Kd.C_drewN ?_ _) | (with_reducible refine Kd.C_drew ?_)))
          (case side2 => exact (Kd.S_reads' HO506.out).2.1)
          rintro e w91 ⟨v510, rfl, ho0, hb⟩
          refine ⟨_, rfl, ?_⟩
          have n0_ := Aside0.mk (Kd.S_elder' (ks HO_476000.out) (Kd.R_base ho0) hb)
          have n1_ := Aside0.mk (Kd.R_below (kr HO493.out) hb)
          have n2_ := Aside0.mk (Kd.S_elder' (ks HO496.out) (Kd.R_base ho0) hb)
          have n3_ := Aside0.mk (Kd.S_elder' (ks HO501.out) (Kd.R_base ho0) hb)
          have n4_ := Aside0.mk (Kd.S_elder' (ks HO506.out) (Kd.R_base ho0) hb)
          have n5_ := Aside0.mk (Kd.R_lower ho0 (below_size (bw HB.out)))
          have n6_ := Aside0.mk (blk_below (g := gb475) (o := .cells #[.slice Ao9 t472.length co9] 29 (0, 0)) (kb BK475.out) hb)
          have n7_ := Aside0.mk (blk_below (g := gb498) (o := .cells #[.slice Ao73 t494.length co73] 29 (0, 0)) (kb BK498.out) hb)
          have n8_ := Aside0.mk (blk_below (g := gb503) (o := .cells #[.slice Ao78 t499.length co78] 29 (0, 0)) (kb BK503.out) hb)
          have n9_ := Aside0.mk (blk_below (g := gb508) (o := .cells #[.slice Ao84 t504.length co84] 29 (0, 0)) (kb BK508.out) hb)
          have n10_ := Aside0.mk (below_step (bw HB.out) hb)
          clear HO_476000; clear HO493; clear HO496; clear HO501; clear HO506; clear BK475; clear BK498; clear BK503; clear BK508; clear HB; have HO_476000 := n0_; have HO493 := n1_; have HO496 := n2_; have HO501 := n3_; have HO506 := n4_; have HO511 := n5_; have BK475 := n6_; have BK498 := n7_; have BK503 := n8_; have BK508 := n9_; have HB := n10_; clear n0_ n1_ n2_ n3_ n4_ n5_ n6_ n7_ n8_ n9_ n10_; (try clear hb); (try clear hb2); (try clear hk); (try clear hi); (try clear ho0)
          refine hK.out _ _ ((blk_cell BK508.out 0).trans rfl) (fun hHeld => ?_)
          clear hK K
          refine norm_ (a' := ?_) ?_ ?_
          rotate_left
          ·show Act.put _ (some 70) _ = _
           simp only [Act.put, List.setIfInBounds_toArray, List.set_cons_zero, List.set_cons_succ, i64_w, i32_w]
           rfl
          refine one_ (i := 5) (N := some 73) #[true, true, true, true, true, true, false, false] rfl rfl (one_of HT_.out (by kernel_rfl)) (by decide) (fun K hK => ?_)
          refine goes_ Try.func28 (by kernel_rfl) rfl #[.agg #[.slice Ao84 t504.length co84], .int .i64 t507] (by rfl) rfl rfl (by (try simp only [List.map_toArray, List.map_cons, List.map_nil]); first | done | rfl | (simp only [List.length_drop, List.length_take]; rfl)) ?_
          with_reducible refine (spec_BankOf.calls kj27 _ _ t504 t507 t512 _ ?side1 ?side2 A64.out).mono ?_
          (case side1 => repeat (first | exact (Kd.S_reads' HO506.out).2.2 | (with_reducible refine Kd.C_alloc ?_ _) | (with_reducible refine Kd.C_drewN ?_ _) | (with_reducible refine Kd.C_drew ?_)))
          (case side2 => exact (Kd.S_reads' HO506.out).2.1)
          rintro e w92 ⟨v513, rfl, ho0, hb⟩
          refine ⟨_, rfl, ?_⟩
          have n0_ := Aside0.mk (Kd.S_elder' (ks HO_476000.out) (Kd.R_base ho0) hb)
          have n1_ := Aside0.mk (Kd.R_below (kr HO493.out) hb)
          have n2_ := Aside0.mk (Kd.S_elder' (ks HO496.out) (Kd.R_base ho0) hb)
          have n3_ := Aside0.mk (Kd.S_elder' (ks HO501.out) (Kd.R_base ho0) hb)
          have n4_ := Aside0.mk (Kd.S_elder' (ks HO506.out) (Kd.R_base ho0) hb)
          have n5_ := Aside0.mk (Kd.R_elder' (kr HO511.out) (Kd.R_base ho0) hb)
          have n6_ := Aside0.mk (Kd.R_lower (Kd.R_new' ho0 (Kd.R_lt (kr HO511.out))) (below_size (bw HB.out)))
          have n7_ := Aside0.mk (blk_below (g := gb475) (o := .cells #[.slice Ao9 t472.length co9] 29 (0, 0)) (kb BK475.out) hb)
          have n8_ := Aside0.mk (blk_below (g := gb498) (o := .cells #[.slice Ao73 t494.length co73] 29 (0, 0)) (kb BK498.out) hb)
          have n9_ := Aside0.mk (blk_below (g := gb503) (o := .cells #[.slice Ao78 t499.length co78] 29 (0, 0)) (kb BK503.out) hb)
          have n10_ := Aside0.mk (blk_below (g := gb508) (o := .cells #[.slice Ao84 t504.length co84] 29 (0, 0)) (kb BK508.out) hb)
          have n11_ := Aside0.mk (below_step (bw HB.out) hb)
          clear HO_476000; clear HO493; clear HO496; clear HO501; clear HO506; clear HO511; clear BK475; clear BK498; clear BK503; clear BK508; clear HB; have HO_476000 := n0_; have HO493 := n1_; have HO496 := n2_; have HO501 := n3_; have HO506 := n4_; have HO511 := n5_; have HO514 := n6_; have BK475 := n7_; have BK498 := n8_; have BK503 := n9_; have BK508 := n10_; have HB := n11_; clear n0_ n1_ n2_ n3_ n4_ n5_ n6_ n7_ n8_ n9_ n10_ n11_; (try clear hb); (try clear hb2); (try clear hk); (try clear hi); (try clear ho0)
          obtain ⟨Ao93, co93, eo93⟩ := Kd.R_slice HO511.out
          (first | subst eo93 | (injection eo93 with f1_ f2_ f3_; have f4_ := f1_.symm; have f5_ := f3_.symm; clear f1_ f2_ f3_; subst f4_; subst f5_))
          obtain ⟨Ao94, co94, eo94⟩ := Kd.R_slice HO514.out
          (first | subst eo94 | (injection eo94 with f1_ f2_ f3_; have f4_ := f1_.symm; have f5_ := f3_.symm; clear f1_ f2_ f3_; subst f4_; subst f5_))
          refine hK.out _ _ ((blk_cell BK508.out 0).trans rfl) (fun hHeld => ?_)
          clear hK K
          refine norm_ (a' := ?_) ?_ ?_
          rotate_left
          ·show Act.put _ (some 73) _ = _
           simp only [Act.put, List.setIfInBounds_toArray, List.set_cons_zero, List.set_cons_succ, i64_w, i32_w]
           rfl
          refine one_ (i := 6) (N := some 74) #[true, true, true, true, true, true, true, false] rfl rfl (one_of HT_.out (by kernel_rfl)) (by decide) (fun K hK => ?_)
          refine goes_ Try.func26 (by kernel_rfl) rfl #[.slice Ao93 t509.length co93, .slice Ao94 t512.length co94] (by rfl) rfl rfl (by (try simp only [List.map_toArray, List.map_cons, List.map_nil]); first | done | rfl | (simp only [List.length_drop, List.length_take]; rfl)) ?_
          with_reducible refine (laws_sameInts.calls kj27 _ _ t509 _ _ t512 true _ ?side1 ?side2 ?side3 ?side4 A65.out).mono ?_
          (case side1 => repeat (first | exact (Kd.R_reads' HO511.out).2.2 | (with_reducible refine Kd.C_alloc ?_ _) | (with_reducible refine Kd.C_drewN ?_ _) | (with_reducible refine Kd.C_drew ?_)))
          (case side2 => exact (Kd.R_reads' HO511.out).2.1)
          (case side3 => repeat (first | exact (Kd.R_reads' HO514.out).2.2 | (with_reducible refine Kd.C_alloc ?_ _) | (with_reducible refine Kd.C_drewN ?_ _) | (with_reducible refine Kd.C_drew ?_)))
          (case side4 => exact (Kd.R_reads' HO514.out).2.1)
          rintro e w' ⟨rfl, ⟨nd, rfl⟩⟩
          refine ⟨_, rfl, ?_⟩
          have HO511 := Aside0.mk (Kd.R_drewN HO511.out nd)
          have HO514 := Aside0.mk (Kd.R_drewN HO514.out nd)
          have n0_ := Aside0.mk (Kd.S_drewN HO_476000.out nd)
          have n1_ := Aside0.mk (Kd.R_drewN HO493.out nd)
          have n2_ := Aside0.mk (Kd.S_drewN HO496.out nd)
          have n3_ := Aside0.mk (Kd.S_drewN HO501.out nd)
          have n4_ := Aside0.mk (Kd.S_drewN HO506.out nd)
          have n5_ := Aside0.mk (blk_drewN BK475.out nd)
          have n6_ := Aside0.mk (blk_drewN BK498.out nd)
          have n7_ := Aside0.mk (blk_drewN BK503.out nd)
          have n8_ := Aside0.mk (blk_drewN BK508.out nd)
          have n9_ := Aside0.mk (pw_below_drewN HB.out nd)
          clear HO_476000; clear HO493; clear HO496; clear HO501; clear HO506; clear BK475; clear BK498; clear BK503; clear BK508; clear HB; have HO_476000 := n0_; have HO493 := n1_; have HO496 := n2_; have HO501 := n3_; have HO506 := n4_; have BK475 := n5_; have BK498 := n6_; have BK503 := n7_; have BK508 := n8_; have HB := n9_; clear n0_ n1_ n2_ n3_ n4_ n5_ n6_ n7_ n8_ n9_
          generalize w92.drewN nd = w92 at HO511 HO514 HO_476000 HO493 HO496 HO501 HO506 BK475 BK498 BK503 BK508 HB ⊢
          refine hK.out _ _ ((blk_cell BK508.out 0).trans rfl) (fun hHeld => ?_)
          clear hK K
          refine norm_ (a' := ?_) ?_ ?_
          rotate_left
          ·show Act.put _ (some 74) _ = _
           simp only [Act.put, List.setIfInBounds_toArray, List.set_cons_zero, List.set_cons_succ, i64_w, i32_w]
           rfl
          refine pure_ (i := 7) (N := some 75) (v := ?_) (a' := ?_) #[true, true, true, true, true, true, true, true] rfl rfl (any_of HT_.out (by kernel_rfl)) (fun _ _ _ h => h) (Or.inl ⟨by rfl, ?_⟩) ?_ ?_
          rotate_left
          ·intro w'
           go_simp
           with_reducible rfl
          rotate_left
          ·simp only [Act.put, List.setIfInBounds_toArray, List.set_cons_zero, List.set_cons_succ, i64_w, i32_w]
           rfl
          refine done_ (done_of HT_.out (by kernel_rfl)) ?_
          try go_wp2
          (try (rw [drewN_self w92]; generalize hq_ : World.drewN w92 _ = w92; have n0_ : Aside0 (Kd.R (Kd.int .u8) 5 w92 w.heap.size (fun _ => True) (.slice Ao70 t491.length co70) t491) := ⟨by rw [← hq_]; exact (kr HO493.out)⟩; have n1_ : Aside0 (Kd.S (Kd.slice 3 (Kd.int .i64)) 30 w92 w.heap.size (fun k_ => some k_ ≠ (.slice Ao78 t499.length co78 : Value).ownBlock ∧ some k_ ≠ (.slice Ao84 t504.length co84 : Value).ownBlock ∧ some k_ ≠ (.slice Ao93 t509.length co93 : Value).ownBlock ∧ some k_ ≠ (.slice Ao94 t512.length co94 : Value).ownBlock ∧ some k_ ≠ (.slice Ao9 t472.length co9 : Value).ownBlock) (.slice Ao73 t494.length co73) t494) := ⟨by rw [← hq_]; exact (ks (Kd.S_mono HO496.out (fun _ hk => ⟨hk.1.1.2.1, ⟨hk.1.1.2.2, ⟨hk.1.2, ⟨hk.2, hk.1.1.1⟩⟩⟩⟩)))⟩; have n2_ : Aside0 (Kd.S (Kd.slice 3 (Kd.int .i64)) 30 w92 w.heap.size (fun k_ => some k_ ≠ (.slice Ao73 t494.length co73 : Value).ownBlock ∧ some k_ ≠ (.slice Ao84 t504.length co84 : Value).ownBlock ∧ some k_ ≠ (.slice Ao93 t509.length co93 : Value).ownBlock ∧ some k_ ≠ (.slice Ao94 t512.length co94 : Value).ownBlock ∧ some k_ ≠ (.slice Ao9 t472.length co9 : Value).ownBlock) (.slice Ao78 t499.length co78) t499) := ⟨by rw [← hq_]; exact (ks (Kd.S_mono HO501.out (fun _ hk => ⟨hk.1.1.2.1, ⟨hk.1.1.2.2, ⟨hk.1.2, ⟨hk.2, hk.1.1.1⟩⟩⟩⟩)))⟩; have n3_ : Aside0 (Kd.S (cutK 3 (Kd.int .i64)) 30 w92 w.heap.size (fun k_ => some k_ ≠ (.slice Ao73 t494.length co73 : Value).ownBlock ∧ some k_ ≠ (.slice Ao78 t499.length co78 : Value).ownBlock ∧ some k_ ≠ (.slice Ao93 t509.length co93 : Value).ownBlock ∧ some k_ ≠ (.slice Ao94 t512.length co94 : Value).ownBlock ∧ some k_ ≠ (.slice Ao9 t472.length co9 : Value).ownBlock) (.slice Ao84 t504.length co84) t504) := ⟨by rw [← hq_]; exact (ks (Kd.S_mono HO506.out (fun _ hk => ⟨hk.1.1.2.1, ⟨hk.1.1.2.2, ⟨hk.1.2, ⟨hk.2, hk.1.1.1⟩⟩⟩⟩)))⟩; have n4_ : Aside0 (Kd.R (Kd.int .i64) 3 w92 w.heap.size (fun k_ => some k_ ≠ (.slice Ao94 t512.length co94 : Value).ownBlock) (.slice Ao93 t509.length co93) t509) := ⟨by rw [← hq_]; exact (kr (Kd.R_mono HO511.out (fun _ hk => hk.2)))⟩; have n5_ : Aside0 (Kd.R (Kd.int .i64) 3 w92 w.heap.size (fun k_ => some k_ ≠ (.slice Ao93 t509.length co93 : Value).ownBlock) (.slice Ao94 t512.length co94) t512) := ⟨by rw [← hq_]; exact (kr (Kd.R_mono HO514.out (fun _ hk => hk.2)))⟩; have n6_ : Aside0 (Kd.S (cutK 3 (Kd.int .i64)) 30 w92 w.heap.size (fun k_ => some k_ ≠ (.slice Ao73 t494.length co73 : Value).ownBlock ∧ some k_ ≠ (.slice Ao78 t499.length co78 : Value).ownBlock ∧ some k_ ≠ (.slice Ao84 t504.length co84 : Value).ownBlock ∧ some k_ ≠ (.slice Ao93 t509.length co93 : Value).ownBlock ∧ some k_ ≠ (.slice Ao94 t512.length co94 : Value).ownBlock) (.slice Ao9 t472.length co9) t472) := ⟨by rw [← hq_]; exact (ks (Kd.S_mono HO_476000.out (fun _ hk => ⟨hk.1.1.1, ⟨hk.1.1.2.1, ⟨hk.1.1.2.2, ⟨hk.1.2, hk.2⟩⟩⟩⟩)))⟩; have n7_ : Aside0 (w92.heap[gb475]? = some (.cells #[.slice Ao9 t472.length co9] 29 (0, 0))) := ⟨by rw [← hq_]; exact (kb BK475.out)⟩; have n8_ : Aside0 (w92.heap[gb498]? = some (.cells #[.slice Ao73 t494.length co73] 29 (0, 0))) := ⟨by rw [← hq_]; exact (kb BK498.out)⟩; have n9_ : Aside0 (w92.heap[gb503]? = some (.cells #[.slice Ao78 t499.length co78] 29 (0, 0))) := ⟨by rw [← hq_]; exact (kb BK503.out)⟩; have n10_ : Aside0 (w92.heap[gb508]? = some (.cells #[.slice Ao84 t504.length co84] 29 (0, 0))) := ⟨by rw [← hq_]; exact (kb BK508.out)⟩; have n11_ : Aside0 (Below w.heap.size w w92) := ⟨by rw [← hq_]; exact (bw HB.out)⟩; clear HO493 HO496 HO501 HO506 HO511 HO514 HO_476000 BK475 BK498 BK503 BK508 HB hq_; have HO493 := n0_; have HO496 := n1_; have HO501 := n2_; have HO506 := n3_; have HO511 := n4_; have HO514 := n5_; have HO_476000 := n6_; have BK475 := n7_; have BK498 := n8_; have BK503 := n9_; have BK508 := n10_; have HB := n11_; clear n0_ n1_ n2_ n3_ n4_ n5_ n6_ n7_ n8_ n9_ n10_ n11_))
          have n0_ := Aside0.mk (Kd.S_drew HO_476000.out)
          have n1_ := Aside0.mk (Kd.R_drew HO493.out)
          have n2_ := Aside0.mk (Kd.S_drew HO496.out)
          have n3_ := Aside0.mk (Kd.S_drew HO501.out)
          have n4_ := Aside0.mk (Kd.S_drew HO506.out)
          have n5_ := Aside0.mk (Kd.R_drew HO511.out)
          have n6_ := Aside0.mk (Kd.R_drew HO514.out)
          have n7_ := Aside0.mk (blk_drew BK475.out)
          have n8_ := Aside0.mk (blk_drew BK498.out)
          have n9_ := Aside0.mk (blk_drew BK503.out)
          have n10_ := Aside0.mk (blk_drew BK508.out)
          have n11_ := Aside0.mk (below_drew1 HB.out)
          clear HO_476000; clear HO493; clear HO496; clear HO501; clear HO506; clear HO511; clear HO514; clear BK475; clear BK498; clear BK503; clear BK508; clear HB; have HO_476000 := n0_; have HO493 := n1_; have HO496 := n2_; have HO501 := n3_; have HO506 := n4_; have HO511 := n5_; have HO514 := n6_; have BK475 := n7_; have BK498 := n8_; have BK503 := n9_; have BK508 := n10_; have HB := n11_; clear n0_ n1_ n2_ n3_ n4_ n5_ n6_ n7_ n8_ n9_ n10_ n11_
          refine start_ (n := 21) (S := fun w' => w'.cell? ⟨gb498, 0, none⟩ = some (.slice Ao73 t494.length co73) ∧ (convert 22 9 (.slice Ao70 t491.length co70)).run Try.prog w' = .ok (.string (strOfNums t491)) w') (ds := []) #[false, false, false, false, false, false, false, false, false, false, false, false, false, false, false, false, false, false, false, false, false] (by kernel_rfl) rfl rfl ⟨((blk_cell BK498.out 0).trans rfl), own_string (P := Try.prog) Try.underlying22 Try.underlying5 Try.underlying9 (Kd.own_of_R HO493.out)⟩ (fun hHeld => ?_); refine with_tabW laws_FnImage.tab19 laws_FnImage.bits19 (fun HT_ HW_ => ?_)
          generalize w92.drew = w95 at HO_476000 HO493 HO496 HO501 HO506 HO511 HO514 BK475 BK498 BK503 BK508 HB hHeld ⊢
          refine pure_ (i := 0) (N := some 76) (v := ?_) (a' := ?_) #[true, false, false, false, false, false, false, false, false, false, false, false, false, false, false, false, false, false, false, false, false] rfl rfl (any_of HT_.out (by kernel_rfl)) (fun _ _ _ h => h) (Or.inl ⟨by rfl, ?_⟩) ?_ ?_
          rotate_left
          ·intro w'
           go_simp
           with_reducible rfl
          rotate_left
          ·simp only [Act.put, List.setIfInBounds_toArray, List.set_cons_zero, List.set_cons_succ, i64_w, i32_w]
           rfl
          refine pure_ (i := 1) (N := some 77) (v := ?_) (a' := ?_) #[true, true, false, false, false, false, false, false, false, false, false, false, false, false, false, false, false, false, false, false, false] rfl rfl (any_of HT_.out (by kernel_rfl)) (fun _ _ _ h => h) (Or.inl ⟨by rfl, ?_⟩) ?_ ?_
          rotate_left
          ·intro w'
           go_simp
           with_reducible rfl
          rotate_left
          ·simp only [Act.put, List.setIfInBounds_toArray, List.set_cons_zero, List.set_cons_succ, i64_w, i32_w]
           rfl
          refine pure_ (i := 2) (N := some 78) (v := ?_) (a' := ?_) #[true, true, true, false, false, false, false, false, false, false, false, false, false, false, false, false, false, false, false, false, false] rfl rfl (any_of HT_.out (by kernel_rfl)) (fun _ _ _ h => h) (Or.inl ⟨by rfl, ?_⟩) ?_ ?_
          rotate_left
          ·intro w'
           go_simp
           with_reducible rfl
          rotate_left
          ·simp only [Act.put, List.setIfInBounds_toArray, List.set_cons_zero, List.set_cons_succ, i64_w, i32_w]
           rfl
          refine pure_ (i := 3) (N := some 79) (v := undef) (a' := ?_) #[true, true, true, true, false, false, false, false, false, false, false, false, false, false, false, false, false, false, false, false, false] rfl rfl (any_of HT_.out (by kernel_rfl)) (fun _ _ _ h => h) (Or.inr ⟨by rfl, rfl⟩) ?_ ?_
          rotate_left
          ·simp only [Act.put, List.setIfInBounds_toArray, List.set_cons_zero, List.set_cons_succ, i64_w, i32_w]
           rfl
          refine pure_ (i := 4) (N := some 80) (v := undef) (a' := ?_) #[true, true, true, true, true, false, false, false, false, false, false, false, false, false, false, false, false, false, false, false, false] rfl rfl (any_of HT_.out (by kernel_rfl)) (fun _ _ _ h => h) (Or.inr ⟨by rfl, rfl⟩) ?_ ?_
          rotate_left
          ·simp only [Act.put, List.setIfInBounds_toArray, List.set_cons_zero, List.set_cons_succ, i64_w, i32_w]
           rfl
          refine pure_ (i := 5) (N := some 81) (v := undef) (a' := ?_) #[true, true, true, true, true, true, false, false, false, false, false, false, false, false, false, false, false, false, false, false, false] rfl rfl (any_of HT_.out (by kernel_rfl)) (fun _ _ _ h => h) (Or.inr ⟨by rfl, rfl⟩) ?_ ?_
          rotate_left
          ·simp only [Act.put, List.setIfInBounds_toArray, List.set_cons_zero, List.set_cons_succ, i64_w, i32_w]
           rfl
          refine pure_ (i := 6) (N := some 82) (v := undef) (a' := ?_) #[true, true, true, true, true, true, true, false, false, false, false, false, false, false, false, false, false, false, false, false, false] rfl rfl (any_of HT_.out (by kernel_rfl)) (fun _ _ _ h => h) (Or.inr ⟨by rfl, rfl⟩) ?_ ?_
          rotate_left
          ·simp only [Act.put, List.setIfInBounds_toArray, List.set_cons_zero, List.set_cons_succ, i64_w, i32_w]
           rfl
          refine pure_ (i := 7) (N := some 83) (v := ?_) (a' := ?_) #[true, true, true, true, true, true, true, true, false, false, false, false, false, false, false, false, false, false, false, false, false] rfl rfl (any_of HT_.out (by kernel_rfl)) (fun _ _ _ h => h) (Or.inl ⟨by rfl, ?_⟩) ?_ ?_
          rotate_left
          ·intro w'
           go_simp
           with_reducible rfl
          rotate_left
          ·simp only [Act.put, List.setIfInBounds_toArray, List.set_cons_zero, List.set_cons_succ, i64_w, i32_w]
           rfl
          refine pure_ (i := 8) (N := some 84) (v := ?_) (a' := ?_) #[true, true, true, true, true, true, true, true, true, false, false, false, false, false, false, false, false, false, false, false, false] rfl rfl (any_of HT_.out (by kernel_rfl)) (fun _ _ _ h => h) (Or.inl ⟨by rfl, ?_⟩) ?_ ?_
          rotate_left
          ·intro w'
           go_simp
           with_reducible rfl
          rotate_left
          ·simp only [Act.put, List.setIfInBounds_toArray, List.set_cons_zero, List.set_cons_succ, i64_w, i32_w]
           rfl
          refine pure_ (i := 9) (N := some 85) (v := ?_) (a' := ?_) #[true, true, true, true, true, true, true, true, true, true, false, false, false, false, false, false, false, false, false, false, false] rfl rfl (any_of HT_.out (by kernel_rfl)) (fun _ _ _ h => h) (Or.inl ⟨by rfl, ?_⟩) ?_ ?_
          rotate_left
          ·intro w'
           go_simp
           with_reducible rfl
          rotate_left
          ·simp only [Act.put, List.setIfInBounds_toArray, List.set_cons_zero, List.set_cons_succ, i64_w, i32_w]
           rfl
          refine pure_ (i := 10) (N := some 86) (v := ?_) (a' := ?_) #[true, true, true, true, true, true, true, true, true, true, true, false, false, false, false, false, false, false, false, false, false] rfl rfl (any_of HT_.out (by kernel_rfl)) (fun _ _ _ h => h) (Or.inl ⟨by rfl, ?_⟩) ?_ ?_
          rotate_left
          ·intro w'
           go_simp
           with_reducible rfl
          rotate_left
          ·simp only [Act.put, List.setIfInBounds_toArray, List.set_cons_zero, List.set_cons_succ, i64_w, i32_w]
           rfl
          refine pure_ (i := 11) (N := some 87) (v := ?_) (a' := ?_) #[true, true, true, true, true, true, true, true, true, true, true, true, false, false, false, false, false, false, false, false, false] rfl rfl (any_of HT_.out (by kernel_rfl)) (fun _ _ _ h => h) (Or.inl ⟨by rfl, ?_⟩) ?_ ?_
          rotate_left
          ·intro w'
           go_simp
           with_reducible rfl
          rotate_left
          ·simp only [Act.put, List.setIfInBounds_toArray, List.set_cons_zero, List.set_cons_succ, i64_w, i32_w]
           rfl
          refine pure_ (i := 15) (N := some 91) (v := ?_) (a' := ?_) #[true, true, true, true, true, true, true, true, true, true, true, true, false, false, false, true, false, false, false, false, false] rfl rfl (any_of HT_.out (by kernel_rfl)) (fun _ _ _ h => h) (Or.inl ⟨by rfl, ?_⟩) ?_ ?_
          rotate_left
          ·intro w'
           go_simp
           with_reducible rfl
          rotate_left
          ·simp only [Act.put, List.setIfInBounds_toArray, List.set_cons_zero, List.set_cons_succ, i64_w, i32_w]
           rfl
          refine take_ (i := 16) (N := some 92) (v := ?_) (a' := ?_) #[true, true, true, true, true, true, true, true, true, true, true, true, false, false, false, true, true, false, false, false, false] rfl rfl (take_ofW HT_.out HW_.out (by kernel_rfl)) (fun _ _ _ h => h) (Or.inl ⟨by rfl, ?_⟩) hHeld ?_ ?_
          rotate_left
          ·rintro w' ⟨s0, s1⟩
           go_simp
           with_reducible rfl
          rotate_left
          ·simp only [Act.put, List.setIfInBounds_toArray, List.set_cons_zero, List.set_cons_succ, i64_w, i32_w]
           rfl
          refine take_ (i := 12) (N := some 88) (v := ?_) (a' := ?_) #[true, true, true, true, true, true, true, true, true, true, true, true, true, false, false, true, true, false, false, false, false] rfl rfl (take_ofW HT_.out HW_.out (by kernel_rfl)) (fun _ _ _ h => h) (Or.inl ⟨by rfl, ?_⟩) hHeld ?_ ?_
          rotate_left
          ·intro w' s0
           go_simp
           with_reducible rfl
          rotate_left
          ·simp only [Act.put, List.setIfInBounds_toArray, List.set_cons_zero, List.set_cons_succ, i64_w, i32_w]
           rfl
          refine one_ (i := 13) (N := some 89) #[true, true, true, true, true, true, true, true, true, true, true, true, true, true, false, true, true, false, false, false, false] rfl rfl (one_of HT_.out (by kernel_rfl)) (by decide) (fun K hK => ?_)
          refine goes_ Try.func17 (by kernel_rfl) rfl #[.agg #[.slice Ao73 t494.length co73]] (by rfl) rfl rfl (by (try simp only [List.map_toArray, List.map_cons, List.map_nil]); first | done | rfl | (simp only [List.length_drop, List.length_take]; rfl)) ?_
          with_reducible refine (impl_ImageBytes.calls kj27 _ _ t494 t516 _ ?side1 ?side2 A68.out).mono ?_
          (case side1 => repeat (first | exact (Kd.S_reads' HO496.out).2.2 | (with_reducible refine Kd.C_alloc ?_ _) | (with_reducible refine Kd.C_drewN ?_ _) | (with_reducible refine Kd.C_drew ?_)))
          (case side2 => exact (Kd.S_reads' HO496.out).2.1)
          rintro e w96 ⟨v517, rfl, ho0, hb⟩
          refine ⟨_, rfl, ?_⟩
          have n0_ := Aside0.mk (Kd.S_below (ks HO_476000.out) hb)
          have n1_ := Aside0.mk (Kd.R_elder' (kr HO493.out) (Kd.R_base ho0) hb)
          have n2_ := Aside0.mk (Kd.S_below (ks HO496.out) hb)
          have n3_ := Aside0.mk (Kd.S_below (ks HO501.out) hb)
          have n4_ := Aside0.mk (Kd.S_below (ks HO506.out) hb)
          have n5_ := Aside0.mk (Kd.R_below (kr HO511.out) hb)
          have n6_ := Aside0.mk (Kd.R_below (kr HO514.out) hb)
          have n7_ := Aside0.mk (Kd.R_lower (Kd.R_new' ho0 (Kd.R_lt (kr HO493.out))) (below_size (bw HB.out)))
          have n8_ := Aside0.mk (blk_below (g := gb475) (o := .cells #[.slice Ao9 t472.length co9] 29 (0, 0)) (kb BK475.out) hb)
          have n9_ := Aside0.mk (blk_below (g := gb498) (o := .cells #[.slice Ao73 t494.length co73] 29 (0, 0)) (kb BK498.out) hb)
          have n10_ := Aside0.mk (blk_below (g := gb503) (o := .cells #[.slice Ao78 t499.length co78] 29 (0, 0)) (kb BK503.out) hb)
          have n11_ := Aside0.mk (blk_below (g := gb508) (o := .cells #[.slice Ao84 t504.length co84] 29 (0, 0)) (kb BK508.out) hb)
          have n12_ := Aside0.mk (below_step (bw HB.out) hb)
          clear HO_476000; clear HO493; clear HO496; clear HO501; clear HO506; clear HO511; clear HO514; clear BK475; clear BK498; clear BK503; clear BK508; clear HB; have HO_476000 := n0_; have HO493 := n1_; have HO496 := n2_; have HO501 := n3_; have HO506 := n4_; have HO511 := n5_; have HO514 := n6_; have HO518 := n7_; have BK475 := n8_; have BK498 := n9_; have BK503 := n10_; have BK508 := n11_; have HB := n12_; clear n0_ n1_ n2_ n3_ n4_ n5_ n6_ n7_ n8_ n9_ n10_ n11_ n12_; (try clear hb); (try clear hb2); (try clear hk); (try clear hi); (try clear ho0)
          have hcv98 := own_string (P := Try.prog) Try.underlying22 Try.underlying5 Try.underlying9 (Kd.own_of_R HO493.out)
          refine hK.out _ _ ⟨((blk_cell BK498.out 0).trans rfl), own_string (P := Try.prog) Try.underlying22 Try.underlying5 Try.underlying9 (Kd.own_of_R HO493.out)⟩ (fun hHeld => ?_)
          clear hK K
          refine norm_ (a' := ?_) ?_ ?_
          rotate_left
          ·show Act.put _ (some 89) _ = _
           simp only [Act.put, List.setIfInBounds_toArray, List.set_cons_zero, List.set_cons_succ, i64_w, i32_w]
           rfl
          refine one_ (i := 14) (N := some 90) #[true, true, true, true, true, true, true, true, true, true, true, true, true, true, true, true, true, false, false, false, false] rfl rfl (one_of HT_.out (by kernel_rfl)) (by decide) (fun K hK => ?_)
          have hcv97 := own_string (P := Try.prog) Try.underlying22 Try.underlying5 Try.underlying9 (Kd.own_of_R HO518.out)
          refine value_ (w1 := ?_) (v := ?_) (by rfl) rfl ?_ ?_
          rotate_left 2
          ·go_simp
           constructor
           ·rfl
           ·rfl
          clear hcv97
          refine hK.out _ _ ⟨((blk_cell BK498.out 0).trans rfl), own_string (P := Try.prog) Try.underlying22 Try.underlying5 Try.underlying9 (Kd.own_of_R HO493.out)⟩ (fun hHeld => ?_)
          clear hK K
          refine norm_ (a' := ?_) ?_ ?_
          rotate_left
          ·show Act.put _ (some 90) _ = _
           simp only [Act.put, List.setIfInBounds_toArray, List.set_cons_zero, List.set_cons_succ, i64_w, i32_w]
           rfl
          refine pure_ (i := 17) (N := some 93) (v := ?_) (a' := ?_) #[true, true, true, true, true, true, true, true, true, true, true, true, true, true, true, true, true, true, false, false, false] rfl rfl (any_of HT_.out (by kernel_rfl)) (fun _ _ _ h => h) (Or.inl ⟨by rfl, ?_⟩) ?_ ?_
          rotate_left
          ·intro w'
           go_simp
           with_reducible rfl
          rotate_left
          ·simp only [Act.put, List.setIfInBounds_toArray, List.set_cons_zero, List.set_cons_succ, i64_w, i32_w]
           rfl
          refine pure_ (i := 18) (N := some 94) (v := ?_) (a' := ?_) #[true, true, true, true, true, true, true, true, true, true, true, true, true, true, true, true, true, true, true, false, false] rfl rfl (any_of HT_.out (by kernel_rfl)) (fun _ _ _ h => h) (Or.inl ⟨by rfl, ?_⟩) ?_ ?_
          rotate_left
          ·intro w'
           go_simp
           with_reducible rfl
          rotate_left
          ·simp only [Act.put, List.setIfInBounds_toArray, List.set_cons_zero, List.set_cons_succ, i64_w, i32_w]
           rfl
          refine pure_ (i := 19) (N := some 95) (v := ?_) (a' := ?_) #[true, true, true, true, true, true, true, true, true, true, true, true, true, true, true, true, true, true, true, true, false] rfl rfl (any_of HT_.out (by kernel_rfl)) (fun _ _ _ h => h) (Or.inl ⟨by rfl, ?_⟩) ?_ ?_
          rotate_left
          ·intro w'
           go_simp
           with_reducible rfl
          rotate_left
          ·simp only [Act.put, List.setIfInBounds_toArray, List.set_cons_zero, List.set_cons_succ, i64_w, i32_w]
           rfl
          refine pure_ (i := 20) (N := some 2) (v := ?_) (a' := ?_) #[true, true, true, true, true, true, true, true, true, true, true, true, true, true, true, true, true, true, true, true, true] rfl rfl (any_of HT_.out (by kernel_rfl)) (fun _ _ _ h => h) (Or.inl ⟨by rfl, ?_⟩) ?_ ?_
          rotate_left
          ·intro w'
           go_simp
           with_reducible rfl
          rotate_left
          ·simp only [Act.put, List.setIfInBounds_toArray, List.set_cons_zero, List.set_cons_succ, i64_w, i32_w]
           rfl
          refine done_ (done_of HT_.out (by kernel_rfl)) ?_
          try go_wp2
          go_ret
          exact ⟨rt, bw HB.out⟩
         ·rw [if_neg c67] at H
          have c67b0 : (t497 == 0) = false := beq_eq_false_iff_ne.mpr c67
          have c67b1 : (t497 != 0) = true := bne_iff_ne.mpr c67
          by_cases c100 : (t494.length : Int) = 0
          ·rw [if_pos c100] at H
           have c100b0 : ((t494.length : Int) == 0) = true := beq_iff_eq.mpr c100
           have c100b1 : ((t494.length : Int) != 0) = false := bne_eq_false_iff_eq.mpr c100
           clear c100
           obtain rfl := Option.some.inj H
           try go_wp2_with (first | ((with_reducible refine gate_callee (f := 23) rfl ?_); refine goesM_ (some 49) rfl rfl Try.func23 #[.slice A0 l0.length c0] ?_; (with_reducible refine (spec_DrawImageRead.calls kj27 _ _ l0 t491 _ ?side1 ?side2 A58.out).mono ?_); (case side1 => exact kc (Kd.C_below HR0.out HB.out)); (case side2 => exact HC0.out); rintro e w101 ⟨v492, rfl, ho0, hb⟩; refine ⟨_, rfl, ?_⟩; have n0_ := Aside0.mk (Kd.S_below (ks HO_476000.out) hb); have n1_ := Aside0.mk (Kd.R_lower ho0 (below_size (bw HB.out))); have n2_ := Aside0.mk (blk_below (g := gb475) (o := .cells #[.slice Ao9 t472.length co9] 29 (0, 0)) (kb BK475.out) hb); have n3_ := Aside0.mk (below_step (bw HB.out) hb); clear HO_476000; clear BK475; clear HB; have HO_476000 := n0_; have HO493 := n1_; have BK475 := n2_; have HB := n3_; clear n0_ n1_ n2_ n3_; (try clear hb); (try clear hb2); (try clear hk); (try clear hi); (try clear ho0); obtain ⟨Ao102, co102, eo102⟩ := Kd.R_slice HO493.out; subst eo102) | ((with_reducible refine gate_callee (f := 21) rfl ?_); refine goesM_ (some 52) rfl rfl Try.func21 #[.slice Ao102 t491.length co102] ?_; (with_reducible refine (impl_ImageRead.calls kj27 _ _ t491 t494 t497 _ ?side1 ?side2 A59.out).mono ?_); (case side1 => repeat (first | exact (Kd.R_reads' HO493.out).2.2 | (with_reducible refine Kd.C_alloc ?_ _) | (with_reducible refine Kd.C_drewN ?_ _) | (with_reducible refine Kd.C_drew ?_))); (case side2 => exact (Kd.R_reads' HO493.out).2.1); rintro e w103 ⟨v495, rfl, ho0, hb⟩; refine ⟨_, rfl, ?_⟩; have n0_ := Aside0.mk (Kd.S_elder' (ks HO_476000.out) (Kd.S_base ho0) hb); have n1_ := Aside0.mk (Kd.R_below (kr HO493.out) hb); have n2_ := Aside0.mk (Kd.S_lower (Kd.S_new' ho0 (Kd.S_lt (ks HO_476000.out))) (below_size (bw HB.out))); have n3_ := Aside0.mk (blk_below (g := gb475) (o := .cells #[.slice Ao9 t472.length co9] 29 (0, 0)) (kb BK475.out) hb); have n4_ := Aside0.mk (below_step (bw HB.out) hb); clear HO_476000; clear HO493; clear BK475; clear HB; have HO_476000 := n0_; have HO493 := n1_; have HO496 := n2_; have BK475 := n3_; have HB := n4_; clear n0_ n1_ n2_ n3_ n4_; (try clear hb); (try clear hb2); (try clear hk); (try clear hi); (try clear ho0)) | ((with_reducible refine gate_dst (N := 8) rfl ?_); (try (refine gate_guard (by rfl) ?_; dsimp only)); refine bx (N := 8) (cs := #[.slice none 0 0]) (t := 29) ?_; intro gb498 hg w104 hbox hb; have n0_ := Aside0.mk (Kd.S_below (ks HO_476000.out) hb); have n1_ := Aside0.mk (Kd.R_below (kr HO493.out) hb); have n2_ := Aside0.mk (Kd.S_below (ks HO496.out) hb); have n3_ := Aside0.mk (blk_below (g := gb475) (o := .cells #[.slice Ao9 t472.length co9] 29 (0, 0)) (kb BK475.out) hb); have n4_ := Aside0.mk (below_step (bw HB.out) hb); have n5_ := Aside0.mk (hbox); have n6_ := Aside0.mk ((gs hg (bw HB.out))); have n7_ := Aside0.mk ((gs hg (bw HB.out))); have n8_ := Aside0.mk ((ga hg BK475.out)); have n9_ := Aside0.mk ((gc hg BK475.out)); clear HO_476000; clear HO493; clear HO496; clear BK475; clear HB; have HO_476000 := n0_; have HO493 := n1_; have HO496 := n2_; have BK475 := n3_; have HB := n4_; have BK498 := n5_; have GW498 := n6_; have GE498 := n7_; have NB475_498 := n8_; have NB498_475 := n9_; clear n0_ n1_ n2_ n3_ n4_ n5_ n6_ n7_ n8_ n9_; clear hb hbox hg; obtain ⟨Ao105, co105, eo105⟩ := Kd.S_slice HO496.out; subst eo105; have hnb106 := NB498_475.out; have hnc106 := NB475_498.out; have hcz107_0 : w104.cell? ⟨gb498, 0, none⟩ = some (.slice none 0 0) := (blk_cell BK498.out 0).trans rfl; have hfz107_0 := blk_frozen BK498.out 0) | ((with_reducible refine gate_callee (f := 24) rfl ?_); refine goesM_ (some 57) rfl rfl Try.func24 #[.slice Ao102 t491.length co102] ?_; (with_reducible refine (spec_ImageRead.calls kj27 _ _ t491 t499 t502 _ ?side1 ?side2 A60.out).mono ?_); (case side1 => refine (Kd.R_reads' (e := 5) (base := w.heap.size) (ok := fun k_ => True) (n := t491.length) (c := co102) ?_).2.2; exact (kr ((Kd.R_mono (Kd.R_far (p := ⟨gb498, 0, none⟩) (Kd.R_types HO493.out BK498.out (by decide)) (fun _ hk => hk.2) (.slice Ao105 t494.length co105)) (fun _ h_ => h_.1))))); (case side2 => exact (Kd.R_reads' HO493.out).2.1); rintro e w108 ⟨v500, rfl, ho0, hb⟩; refine ⟨_, rfl, ?_⟩; have n0_ := Aside0.mk (Kd.S_elder' (ks ((Kd.S_mono (Kd.S_far (p := ⟨gb498, 0, none⟩) (Kd.S_types HO_476000.out BK498.out (by decide)) (fun _ hk => hk.2) (.slice Ao105 t494.length co105)) (fun _ h_ => h_.1)))) (Kd.S_base ho0) hb); have n1_ := Aside0.mk (Kd.R_below (kr ((Kd.R_mono (Kd.R_far (p := ⟨gb498, 0, none⟩) (Kd.R_types HO493.out BK498.out (by decide)) (fun _ hk => hk.2) (.slice Ao105 t494.length co105)) (fun _ h_ => h_.1)))) hb); have n2_ := Aside0.mk (Kd.S_elder' (ks ((Kd.S_mono (Kd.S_far (p := ⟨gb498, 0, none⟩) (Kd.S_types HO496.out BK498.out (by decide)) (fun _ hk => hk.2) (.slice Ao105 t494.length co105)) (fun _ h_ => h_.1)))) (Kd.S_base ho0) hb); have n3_ := Aside0.mk (Kd.S_lower (Kd.S_new' (Kd.S_new' ho0 (Kd.S_lt (ks ((Kd.S_mono (Kd.S_far (p := ⟨gb498, 0, none⟩) (Kd.S_types HO_476000.out BK498.out (by decide)) (fun _ hk => hk.2) (.slice Ao105 t494.length co105)) (fun _ h_ => h_.1)))))) (Kd.S_lt (ks ((Kd.S_mono (Kd.S_far (p := ⟨gb498, 0, none⟩) (Kd.S_types HO496.out BK498.out (by decide)) (fun _ hk => hk.2) (.slice Ao105 t494.length co105)) (fun _ h_ => h_.1)))))) (below_size (bw HB.out))); have n4_ := Aside0.mk (blk_below (g := gb475) (o := .cells #[.slice Ao9 t472.length co9] 29 (0, 0)) (kf BK475.out) hb); have n5_ := Aside0.mk (blk_below (g := gb498) (o := .cells #[.slice Ao105 t494.length co105] 29 (0, 0)) (kt BK498.out) hb); have n6_ := Aside0.mk (below_step (bw HB.out) hb); clear HO_476000; clear HO493; clear HO496; clear BK475; clear BK498; clear HB; have HO_476000 := n0_; have HO493 := n1_; have HO496 := n2_; have HO501 := n3_; have BK475 := n4_; have BK498 := n5_; have HB := n6_; clear n0_ n1_ n2_ n3_ n4_ n5_ n6_; (try clear hb); (try clear hb2); (try clear hk); (try clear hi); (try clear ho0)) | ((with_reducible refine gate_dst (N := 10) rfl ?_); (try (refine gate_guard (by rfl) ?_; dsimp only)); refine bx (N := 10) (cs := #[.slice none 0 0]) (t := 29) ?_; intro gb503 hg w109 hbox hb; have n0_ := Aside0.mk (Kd.S_below (ks HO_476000.out) hb); have n1_ := Aside0.mk (Kd.R_below (kr HO493.out) hb); have n2_ := Aside0.mk (Kd.S_below (ks HO496.out) hb); have n3_ := Aside0.mk (Kd.S_below (ks HO501.out) hb); have n4_ := Aside0.mk (blk_below (g := gb475) (o := .cells #[.slice Ao9 t472.length co9] 29 (0, 0)) (kb BK475.out) hb); have n5_ := Aside0.mk (blk_below (g := gb498) (o := .cells #[.slice Ao105 t494.length co105] 29 (0, 0)) (kb BK498.out) hb); have n6_ := Aside0.mk (below_step (bw HB.out) hb); have n7_ := Aside0.mk (hbox); have n8_ := Aside0.mk ((gs hg (bw HB.out))); have n9_ := Aside0.mk ((gs hg (bw HB.out))); have n10_ := Aside0.mk ((ga hg BK475.out)); have n11_ := Aside0.mk ((gc hg BK475.out)); have n12_ := Aside0.mk ((ga hg BK498.out)); have n13_ := Aside0.mk ((gc hg BK498.out)); clear HO_476000; clear HO493; clear HO496; clear HO501; clear BK475; clear BK498; clear HB; have HO_476000 := n0_; have HO493 := n1_; have HO496 := n2_; have HO501 := n3_; have BK475 := n4_; have BK498 := n5_; have HB := n6_; have BK503 := n7_; have GW503 := n8_; have GE503 := n9_; have NB475_503 := n10_; have NB503_475 := n11_; have NB498_503 := n12_; have NB503_498 := n13_; clear n0_ n1_ n2_ n3_ n4_ n5_ n6_ n7_ n8_ n9_ n10_ n11_ n12_ n13_; clear hb hbox hg; obtain ⟨Ao110, co110, eo110⟩ := Kd.S_slice HO501.out; subst eo110; have hnb111 := NB503_475.out; have hnc111 := NB475_503.out; have hnb112 := NB503_498.out; have hnc112 := NB498_503.out; have hcz113_0 : w109.cell? ⟨gb503, 0, none⟩ = some (.slice none 0 0) := (blk_cell BK503.out 0).trans rfl; have hfz113_0 := blk_frozen BK503.out 0) | ((with_reducible refine gate_callee (f := 25) rfl ?_); refine goesM_ (some 65) rfl rfl Try.func25 #[.slice A0 l0.length c0] ?_; (with_reducible refine (spec_DrawBankOf.calls kj27 _ _ l0 t504 t507 _ ?side1 ?side2 A62.out).mono ?_); (case side1 => exact Kd.C_below HR0.out (bw HB.out)); (case side2 => exact HC0.out); rintro e w114 ⟨v505, rfl, ho0, hb⟩; refine ⟨_, rfl, ?_⟩; have n0_ := Aside0.mk (Kd.S_elder' (ks ((Kd.S_mono (Kd.S_far (p := ⟨gb503, 0, none⟩) (Kd.S_types HO_476000.out BK503.out (by decide)) (fun _ hk => hk.2) (.slice Ao110 t499.length co110)) (fun _ h_ => h_.1)))) (Kd.S_base ho0) hb); have n1_ := Aside0.mk (Kd.R_below (kr ((Kd.R_mono (Kd.R_far (p := ⟨gb503, 0, none⟩) (Kd.R_types HO493.out BK503.out (by decide)) (fun _ hk => hk.2) (.slice Ao110 t499.length co110)) (fun _ h_ => h_.1)))) hb); have n2_ := Aside0.mk (Kd.S_elder' (ks ((Kd.S_mono (Kd.S_far (p := ⟨gb503, 0, none⟩) (Kd.S_types HO496.out BK503.out (by decide)) (fun _ hk => hk.2) (.slice Ao110 t499.length co110)) (fun _ h_ => h_.1)))) (Kd.S_base ho0) hb); have n3_ := Aside0.mk (Kd.S_elder' (ks ((Kd.S_mono (Kd.S_far (p := ⟨gb503, 0, none⟩) (Kd.S_types HO501.out BK503.out (by decide)) (fun _ hk => hk.2) (.slice Ao110 t499.length co110)) (fun _ h_ => h_.1)))) (Kd.S_base ho0) hb); have n4_ := Aside0.mk (Kd.S_lower (Kd.S_new' (Kd.S_new' (Kd.S_new' ho0 (Kd.S_lt (ks ((Kd.S_mono (Kd.S_far (p := ⟨gb503, 0, none⟩) (Kd.S_types HO_476000.out BK503.out (by decide)) (fun _ hk => hk.2) (.slice Ao110 t499.length co110)) (fun _ h_ => h_.1)))))) (Kd.S_lt (ks ((Kd.S_mono (Kd.S_far (p := ⟨gb503, 0, none⟩) (Kd.S_types HO496.out BK503.out (by decide)) (fun _ hk => hk.2) (.slice Ao110 t499.length co110)) (fun _ h_ => h_.1)))))) (Kd.S_lt (ks ((Kd.S_mono (Kd.S_far (p := ⟨gb503, 0, none⟩) (Kd.S_types HO501.out BK503.out (by decide)) (fun _ hk => hk.2) (.slice Ao110 t499.length co110)) (fun _ h_ => h_.1)))))) (below_size (bw HB.out))); have n5_ := Aside0.mk (blk_below (g := gb475) (o := .cells #[.slice Ao9 t472.length co9] 29 (0, 0)) (kf BK475.out) hb); have n6_ := Aside0.mk (blk_below (g := gb498) (o := .cells #[.slice Ao105 t494.length co105] 29 (0, 0)) (kf BK498.out) hb); have n7_ := Aside0.mk (blk_below (g := gb503) (o := .cells #[.slice Ao110 t499.length co110] 29 (0, 0)) (kt BK503.out) hb); have n8_ := Aside0.mk (below_step (bw HB.out) hb); clear HO_476000; clear HO493; clear HO496; clear HO501; clear BK475; clear BK498; clear BK503; clear HB; have HO_476000 := n0_; have HO493 := n1_; have HO496 := n2_; have HO501 := n3_; have HO506 := n4_; have BK475 := n5_; have BK498 := n6_; have BK503 := n7_; have HB := n8_; clear n0_ n1_ n2_ n3_ n4_ n5_ n6_ n7_ n8_; (try clear hb); (try clear hb2); (try clear hk); (try clear hi); (try clear ho0)) | ((with_reducible refine gate_dst (N := 12) rfl ?_); (try (refine gate_guard (by rfl) ?_; dsimp only)); refine bx (N := 12) (cs := #[.slice none 0 0]) (t := 29) ?_; intro gb508 hg w115 hbox hb; have n0_ := Aside0.mk (Kd.S_below (ks HO_476000.out) hb); have n1_ := Aside0.mk (Kd.R_below (kr HO493.out) hb); have n2_ := Aside0.mk (Kd.S_below (ks HO496.out) hb); have n3_ := Aside0.mk (Kd.S_below (ks HO501.out) hb); have n4_ := Aside0.mk (Kd.S_below (ks HO506.out) hb); have n5_ := Aside0.mk (blk_below (g := gb475) (o := .cells #[.slice Ao9 t472.length co9] 29 (0, 0)) (kb BK475.out) hb); have n6_ := Aside0.mk (blk_below (g := gb498) (o := .cells #[.slice Ao105 t494.length co105] 29 (0, 0)) (kb BK498.out) hb); have n7_ := Aside0.mk (blk_below (g := gb503) (o := .cells #[.slice Ao110 t499.length co110] 29 (0, 0)) (kb BK503.out) hb); have n8_ := Aside0.mk (below_step (bw HB.out) hb); have n9_ := Aside0.mk (hbox); have n10_ := Aside0.mk ((gs hg (bw HB.out))); have n11_ := Aside0.mk ((gs hg (bw HB.out))); have n12_ := Aside0.mk ((ga hg BK475.out)); have n13_ := Aside0.mk ((gc hg BK475.out)); have n14_ := Aside0.mk ((ga hg BK498.out)); have n15_ := Aside0.mk ((gc hg BK498.out)); have n16_ := Aside0.mk ((ga hg BK503.out)); have n17_ := Aside0.mk ((gc hg BK503.out)); clear HO_476000; clear HO493; clear HO496; clear HO501; clear HO506; clear BK475; clear BK498; clear BK503; clear HB; have HO_476000 := n0_; have HO493 := n1_; have HO496 := n2_; have HO501 := n3_; have HO506 := n4_; have BK475 := n5_; have BK498 := n6_; have BK503 := n7_; have HB := n8_; have BK508 := n9_; have GW508 := n10_; have GE508 := n11_; have NB475_508 := n12_; have NB508_475 := n13_; have NB498_508 := n14_; have NB508_498 := n15_; have NB503_508 := n16_; have NB508_503 := n17_; clear n0_ n1_ n2_ n3_ n4_ n5_ n6_ n7_ n8_ n9_ n10_ n11_ n12_ n13_ n14_ n15_ n16_ n17_; clear hb hbox hg; obtain ⟨Ao116, co116, eo116⟩ := Kd.S_slice HO506.out; subst eo116; have hnb117 := NB508_475.out; have hnc117 := NB475_508.out; have hnb118 := NB508_498.out; have hnc118 := NB498_508.out; have hnb119 := NB508_503.out; have hnc119 := NB503_508.out; have hcz120_0 : w115.cell? ⟨gb508, 0, none⟩ = some (.slice none 0 0) := (blk_cell BK508.out 0).trans rfl; have hfz120_0 := blk_frozen BK508.out 0))
           have n0_ : Aside0 (Kd.S (cutK 3 (Kd.int .i64)) 30 (w115.setCell ⟨gb508, 0, none⟩ (.slice Ao116 t504.length co116)) w.heap.size (fun k_ => some k_ ≠ (.slice Ao105 t494.length co105 : Value).ownBlock ∧ some k_ ≠ (.slice Ao110 t499.length co110 : Value).ownBlock ∧ some k_ ≠ (.slice Ao116 t504.length co116 : Value).ownBlock) (.slice Ao9 t472.length co9) t472) := ⟨ks (Kd.S_mono (Kd.S_far (p := ⟨gb508, 0, none⟩) (Kd.S_types HO_476000.out BK508.out (by decide)) (fun _ hk => hk.2) (.slice Ao116 t504.length co116)) (fun _ hk => ⟨hk.1.1.1.2, ⟨hk.1.1.2, hk.1.2⟩⟩))⟩
           have n1_ : Aside0 (Kd.R (Kd.int .u8) 5 (w115.setCell ⟨gb508, 0, none⟩ (.slice Ao116 t504.length co116)) w.heap.size (fun _ => True) (.slice Ao102 t491.length co102) t491) := ⟨kr (Kd.R_mono (Kd.R_far (p := ⟨gb508, 0, none⟩) (Kd.R_types HO493.out BK508.out (by decide)) (fun _ hk => hk.2) (.slice Ao116 t504.length co116)) (fun _ hk => trivial))⟩
           have n2_ : Aside0 (Kd.S (Kd.slice 3 (Kd.int .i64)) 30 (w115.setCell ⟨gb508, 0, none⟩ (.slice Ao116 t504.length co116)) w.heap.size (fun k_ => some k_ ≠ (.slice Ao9 t472.length co9 : Value).ownBlock ∧ some k_ ≠ (.slice Ao110 t499.length co110 : Value).ownBlock ∧ some k_ ≠ (.slice Ao116 t504.length co116 : Value).ownBlock) (.slice Ao105 t494.length co105) t494) := ⟨ks (Kd.S_mono (Kd.S_far (p := ⟨gb508, 0, none⟩) (Kd.S_types HO496.out BK508.out (by decide)) (fun _ hk => hk.2) (.slice Ao116 t504.length co116)) (fun _ hk => ⟨hk.1.1.1.2, ⟨hk.1.1.2, hk.1.2⟩⟩))⟩
           have n3_ : Aside0 (Kd.S (Kd.slice 3 (Kd.int .i64)) 30 (w115.setCell ⟨gb508, 0, none⟩ (.slice Ao116 t504.length co116)) w.heap.size (fun k_ => some k_ ≠ (.slice Ao9 t472.length co9 : Value).ownBlock ∧ some k_ ≠ (.slice Ao105 t494.length co105 : Value).ownBlock ∧ some k_ ≠ (.slice Ao116 t504.length co116 : Value).ownBlock) (.slice Ao110 t499.length co110) t499) := ⟨ks (Kd.S_mono (Kd.S_far (p := ⟨gb508, 0, none⟩) (Kd.S_types HO501.out BK508.out (by decide)) (fun _ hk => hk.2) (.slice Ao116 t504.length co116)) (fun _ hk => ⟨hk.1.1.1.2, ⟨hk.1.1.2, hk.1.2⟩⟩))⟩
           have n4_ : Aside0 (Kd.S (cutK 3 (Kd.int .i64)) 30 (w115.setCell ⟨gb508, 0, none⟩ (.slice Ao116 t504.length co116)) w.heap.size (fun k_ => some k_ ≠ (.slice Ao9 t472.length co9 : Value).ownBlock ∧ some k_ ≠ (.slice Ao105 t494.length co105 : Value).ownBlock ∧ some k_ ≠ (.slice Ao110 t499.length co110 : Value).ownBlock) (.slice Ao116 t504.length co116) t504) := ⟨ks (Kd.S_mono (Kd.S_far (p := ⟨gb508, 0, none⟩) (Kd.S_types HO506.out BK508.out (by decide)) (fun _ hk => hk.2) (.slice Ao116 t504.length co116)) (fun _ hk => ⟨hk.1.1.1.2, ⟨hk.1.1.2, hk.1.2⟩⟩))⟩
           have n5_ : Aside0 ((w115.setCell ⟨gb508, 0, none⟩ (.slice Ao116 t504.length co116)).heap[gb475]? = some (.cells #[.slice Ao9 t472.length co9] 29 (0, 0))) := ⟨kf BK475.out⟩
           have n6_ : Aside0 ((w115.setCell ⟨gb508, 0, none⟩ (.slice Ao116 t504.length co116)).heap[gb498]? = some (.cells #[.slice Ao105 t494.length co105] 29 (0, 0))) := ⟨kf BK498.out⟩
           have n7_ : Aside0 ((w115.setCell ⟨gb508, 0, none⟩ (.slice Ao116 t504.length co116)).heap[gb503]? = some (.cells #[.slice Ao110 t499.length co110] 29 (0, 0))) := ⟨kf BK503.out⟩
           have n8_ : Aside0 ((w115.setCell ⟨gb508, 0, none⟩ (.slice Ao116 t504.length co116)).heap[gb508]? = some (.cells #[.slice Ao116 t504.length co116] 29 (0, 0))) := ⟨kt BK508.out⟩
           have n9_ : Aside0 (Below w.heap.size w (w115.setCell ⟨gb508, 0, none⟩ (.slice Ao116 t504.length co116))) := ⟨bw HB.out⟩
           (try clear HO_476000); (try clear HO493); (try clear HO496); (try clear HO501); (try clear HO506); (try clear BK475); (try clear BK498); (try clear BK503); (try clear BK508); (try clear HB)
           generalize (w115.setCell ⟨gb508, 0, none⟩ (.slice Ao116 t504.length co116)) = w121 at n0_ n1_ n2_ n3_ n4_ n5_ n6_ n7_ n8_ n9_ ⊢
           have HO_476000 := n0_; have HO493 := n1_; have HO496 := n2_; have HO501 := n3_; have HO506 := n4_; have BK475 := n5_; have BK498 := n6_; have BK503 := n7_; have BK508 := n8_; have HB := n9_; clear n0_ n1_ n2_ n3_ n4_ n5_ n6_ n7_ n8_ n9_
           have n0_ := Aside0.mk (Kd.S_drew HO_476000.out)
           have n1_ := Aside0.mk (Kd.R_drew HO493.out)
           have n2_ := Aside0.mk (Kd.S_drew HO496.out)
           have n3_ := Aside0.mk (Kd.S_drew HO501.out)
           have n4_ := Aside0.mk (Kd.S_drew HO506.out)
           have n5_ := Aside0.mk (blk_drew BK475.out)
           have n6_ := Aside0.mk (blk_drew BK498.out)
           have n7_ := Aside0.mk (blk_drew BK503.out)
           have n8_ := Aside0.mk (blk_drew BK508.out)
           have n9_ := Aside0.mk (below_drew1 HB.out)
           clear HO_476000; clear HO493; clear HO496; clear HO501; clear HO506; clear BK475; clear BK498; clear BK503; clear BK508; clear HB; have HO_476000 := n0_; have HO493 := n1_; have HO496 := n2_; have HO501 := n3_; have HO506 := n4_; have BK475 := n5_; have BK498 := n6_; have BK503 := n7_; have BK508 := n8_; have HB := n9_; clear n0_ n1_ n2_ n3_ n4_ n5_ n6_ n7_ n8_ n9_
           refine start_ (n := 8) (S := fun w' => w'.cell? ⟨gb508, 0, none⟩ = some (.slice Ao116 t504.length co116)) (ds := []) #[false, false, false, false, false, false, false, false] (by kernel_rfl) rfl rfl ((blk_cell BK508.out 0).trans rfl) (fun hHeld => ?_); refine with_tabW laws_FnImage.tab17 laws_FnImage.bits17 (fun HT_ HW_ => ?_)
           generalize w121.drew = w122 at HO_476000 HO493 HO496 HO501 HO506 BK475 BK498 BK503 BK508 HB hHeld ⊢
           refine pure_ (i := 1) (N := some 69) (v := ?_) (a' := ?_) #[false, true, false, false, false, false, false, false] rfl rfl (any_of HT_.out (by kernel_rfl)) (fun _ _ _ h => h) (Or.inl ⟨by rfl, ?_⟩) ?_ ?_
           rotate_left
           ·intro w'
            go_simp
            with_reducible rfl
           rotate_left
           ·simp only [Act.put, List.setIfInBounds_toArray, List.set_cons_zero, List.set_cons_succ, i64_w, i32_w]
            rfl
           refine pure_ (i := 4) (N := some 72) (v := ?_) (a' := ?_) #[false, true, false, false, true, false, false, false] rfl rfl (any_of HT_.out (by kernel_rfl)) (fun _ _ _ h => h) (Or.inl ⟨by rfl, ?_⟩) ?_ ?_
           rotate_left
           ·intro w'
            go_simp
            with_reducible rfl
           rotate_left
           ·simp only [Act.put, List.setIfInBounds_toArray, List.set_cons_zero, List.set_cons_succ, i64_w, i32_w]
            rfl
           refine take_ (i := 0) (N := some 68) (v := ?_) (a' := ?_) #[true, true, false, false, true, false, false, false] rfl rfl (take_ofW HT_.out HW_.out (by kernel_rfl)) (fun _ _ _ h => h) (Or.inl ⟨by rfl, ?_⟩) hHeld ?_ ?_
           rotate_left
           ·intro w' s0
            go_simp
            with_reducible rfl
           rotate_left
           ·simp only [Act.put, List.setIfInBounds_toArray, List.set_cons_zero, List.set_cons_succ, i64_w, i32_w]
            rfl
           refine take_ (i := 3) (N := some 71) (v := ?_) (a' := ?_) #[true, true, false, true, true, false, false, false] rfl rfl (take_ofW HT_.out HW_.out (by kernel_rfl)) (fun _ _ _ h => h) (Or.inl ⟨by rfl, ?_⟩) hHeld ?_ ?_
           rotate_left
           ·intro w' s0
            go_simp
            with_reducible rfl
           rotate_left
           ·simp only [Act.put, List.setIfInBounds_toArray, List.set_cons_zero, List.set_cons_succ, i64_w, i32_w]
            rfl
           refine one_ (i := 2) (N := some 70) #[true, true, true, true, true, false, false, false] rfl rfl (one_of HT_.out (by kernel_rfl)) (by decide) (fun K hK => ?_)
           refine goes_ Try.func27 (by kernel_rfl) rfl #[.agg #[.slice Ao116 t504.length co116], .int .i64 t507] (by rfl) rfl rfl (by (try simp only [List.map_toArray, List.map_cons, List.map_nil]); first | done | rfl | (simp only [List.length_drop, List.length_take]; rfl)) ?_
           with_reducible refine (impl_BankOf.calls kj27 _ _ t504 t507 t509 _ ?side1 ?side2 A63.out).mono ?_
           (case side1 => repeat (first | exact (Kd.S_reads' HO506.out).2.2 | (with_reducible refine Kd.C_alloc ?_ _) | (with_reducible refine Kd.C_drewN ?_ _) | (with_reducible refine Kd.C_drew ?_)))
           (case side2 => exact (Kd.S_reads' HO506.out).2.1)
           rintro e w123 ⟨v510, rfl, ho0, hb⟩
           refine ⟨_, rfl, ?_⟩
           have n0_ := Aside0.mk (Kd.S_elder' (ks HO_476000.out) (Kd.R_base ho0) hb)
           have n1_ := Aside0.mk (Kd.R_below (kr HO493.out) hb)
           have n2_ := Aside0.mk (Kd.S_elder' (ks HO496.out) (Kd.R_base ho0) hb)
           have n3_ := Aside0.mk (Kd.S_elder' (ks HO501.out) (Kd.R_base ho0) hb)
           have n4_ := Aside0.mk (Kd.S_elder' (ks HO506.out) (Kd.R_base ho0) hb)
           have n5_ := Aside0.mk (Kd.R_lower ho0 (below_size (bw HB.out)))
           have n6_ := Aside0.mk (blk_below (g := gb475) (o := .cells #[.slice Ao9 t472.length co9] 29 (0, 0)) (kb BK475.out) hb)
           have n7_ := Aside0.mk (blk_below (g := gb498) (o := .cells #[.slice Ao105 t494.length co105] 29 (0, 0)) (kb BK498.out) hb)
           have n8_ := Aside0.mk (blk_below (g := gb503) (o := .cells #[.slice Ao110 t499.length co110] 29 (0, 0)) (kb BK503.out) hb)
           have n9_ := Aside0.mk (blk_below (g := gb508) (o := .cells #[.slice Ao116 t504.length co116] 29 (0, 0)) (kb BK508.out) hb)
           have n10_ := Aside0.mk (below_step (bw HB.out) hb)
           clear HO_476000; clear HO493; clear HO496; clear HO501; clear HO506; clear BK475; clear BK498; clear BK503; clear BK508; clear HB; have HO_476000 := n0_; have HO493 := n1_; have HO496 := n2_; have HO501 := n3_; have HO506 := n4_; have HO511 := n5_; have BK475 := n6_; have BK498 := n7_; have BK503 := n8_; have BK508 := n9_; have HB := n10_; clear n0_ n1_ n2_ n3_ n4_ n5_ n6_ n7_ n8_ n9_ n10_; (try clear hb); (try clear hb2); (try clear hk); (try clear hi); (try clear ho0)
           refine hK.out _ _ ((blk_cell BK508.out 0).trans rfl) (fun hHeld => ?_)
           clear hK K
           refine norm_ (a' := ?_) ?_ ?_
           rotate_left
           ·show Act.put _ (some 70) _ = _
            simp only [Act.put, List.setIfInBounds_toArray, List.set_cons_zero, List.set_cons_succ, i64_w, i32_w]
            rfl
           refine one_ (i := 5) (N := some 73) #[true, true, true, true, true, true, false, false] rfl rfl (one_of HT_.out (by kernel_rfl)) (by decide) (fun K hK => ?_)
           refine goes_ Try.func28 (by kernel_rfl) rfl #[.agg #[.slice Ao116 t504.length co116], .int .i64 t507] (by rfl) rfl rfl (by (try simp only [List.map_toArray, List.map_cons, List.map_nil]); first | done | rfl | (simp only [List.length_drop, List.length_take]; rfl)) ?_
           with_reducible refine (spec_BankOf.calls kj27 _ _ t504 t507 t512 _ ?side1 ?side2 A64.out).mono ?_
           (case side1 => repeat (first | exact (Kd.S_reads' HO506.out).2.2 | (with_reducible refine Kd.C_alloc ?_ _) | (with_reducible refine Kd.C_drewN ?_ _) | (with_reducible refine Kd.C_drew ?_)))
           (case side2 => exact (Kd.S_reads' HO506.out).2.1)
           rintro e w124 ⟨v513, rfl, ho0, hb⟩
           refine ⟨_, rfl, ?_⟩
           have n0_ := Aside0.mk (Kd.S_elder' (ks HO_476000.out) (Kd.R_base ho0) hb)
           have n1_ := Aside0.mk (Kd.R_below (kr HO493.out) hb)
           have n2_ := Aside0.mk (Kd.S_elder' (ks HO496.out) (Kd.R_base ho0) hb)
           have n3_ := Aside0.mk (Kd.S_elder' (ks HO501.out) (Kd.R_base ho0) hb)
           have n4_ := Aside0.mk (Kd.S_elder' (ks HO506.out) (Kd.R_base ho0) hb)
           have n5_ := Aside0.mk (Kd.R_elder' (kr HO511.out) (Kd.R_base ho0) hb)
           have n6_ := Aside0.mk (Kd.R_lower (Kd.R_new' ho0 (Kd.R_lt (kr HO511.out))) (below_size (bw HB.out)))
           have n7_ := Aside0.mk (blk_below (g := gb475) (o := .cells #[.slice Ao9 t472.length co9] 29 (0, 0)) (kb BK475.out) hb)
           have n8_ := Aside0.mk (blk_below (g := gb498) (o := .cells #[.slice Ao105 t494.length co105] 29 (0, 0)) (kb BK498.out) hb)
           have n9_ := Aside0.mk (blk_below (g := gb503) (o := .cells #[.slice Ao110 t499.length co110] 29 (0, 0)) (kb BK503.out) hb)
           have n10_ := Aside0.mk (blk_below (g := gb508) (o := .cells #[.slice Ao116 t504.length co116] 29 (0, 0)) (kb BK508.out) hb)
           have n11_ := Aside0.mk (below_step (bw HB.out) hb)
           clear HO_476000; clear HO493; clear HO496; clear HO501; clear HO506; clear HO511; clear BK475; clear BK498; clear BK503; clear BK508; clear HB; have HO_476000 := n0_; have HO493 := n1_; have HO496 := n2_; have HO501 := n3_; have HO506 := n4_; have HO511 := n5_; have HO514 := n6_; have BK475 := n7_; have BK498 := n8_; have BK503 := n9_; have BK508 := n10_; have HB := n11_; clear n0_ n1_ n2_ n3_ n4_ n5_ n6_ n7_ n8_ n9_ n10_ n11_; (try clear hb); (try clear hb2); (try clear hk); (try clear hi); (try clear ho0)
           obtain ⟨Ao125, co125, eo125⟩ := Kd.R_slice HO511.out
           (first | subst eo125 | (injection eo125 with f1_ f2_ f3_; have f4_ := f1_.symm; have f5_ := f3_.symm; clear f1_ f2_ f3_; subst f4_; subst f5_))
           obtain ⟨Ao126, co126, eo126⟩ := Kd.R_slice HO514.out
           (first | subst eo126 | (injection eo126 with f1_ f2_ f3_; have f4_ := f1_.symm; have f5_ := f3_.symm; clear f1_ f2_ f3_; subst f4_; subst f5_))
           refine hK.out _ _ ((blk_cell BK508.out 0).trans rfl) (fun hHeld => ?_)
           clear hK K
           refine norm_ (a' := ?_) ?_ ?_
           rotate_left
           ·show Act.put _ (some 73) _ = _
            simp only [Act.put, List.setIfInBounds_toArray, List.set_cons_zero, List.set_cons_succ, i64_w, i32_w]
            rfl
           refine one_ (i := 6) (N := some 74) #[true, true, true, true, true, true, true, false] rfl rfl (one_of HT_.out (by kernel_rfl)) (by decide) (fun K hK => ?_)
           refine goes_ Try.func26 (by kernel_rfl) rfl #[.slice Ao125 t509.length co125, .slice Ao126 t512.length co126] (by rfl) rfl rfl (by (try simp only [List.map_toArray, List.map_cons, List.map_nil]); first | done | rfl | (simp only [List.length_drop, List.length_take]; rfl)) ?_
           with_reducible refine (laws_sameInts.calls kj27 _ _ t509 _ _ t512 true _ ?side1 ?side2 ?side3 ?side4 A65.out).mono ?_
           (case side1 => repeat (first | exact (Kd.R_reads' HO511.out).2.2 | (with_reducible refine Kd.C_alloc ?_ _) | (with_reducible refine Kd.C_drewN ?_ _) | (with_reducible refine Kd.C_drew ?_)))
           (case side2 => exact (Kd.R_reads' HO511.out).2.1)
           (case side3 => repeat (first | exact (Kd.R_reads' HO514.out).2.2 | (with_reducible refine Kd.C_alloc ?_ _) | (with_reducible refine Kd.C_drewN ?_ _) | (with_reducible refine Kd.C_drew ?_)))
           (case side4 => exact (Kd.R_reads' HO514.out).2.1)
           rintro e w' ⟨rfl, ⟨nd, rfl⟩⟩
           refine ⟨_, rfl, ?_⟩
           have HO511 := Aside0.mk (Kd.R_drewN HO511.out nd)
           have HO514 := Aside0.mk (Kd.R_drewN HO514.out nd)
           have n0_ := Aside0.mk (Kd.S_drewN HO_476000.out nd)
           have n1_ := Aside0.mk (Kd.R_drewN HO493.out nd)
           have n2_ := Aside0.mk (Kd.S_drewN HO496.out nd)
           have n3_ := Aside0.mk (Kd.S_drewN HO501.out nd)
           have n4_ := Aside0.mk (Kd.S_drewN HO506.out nd)
           have n5_ := Aside0.mk (blk_drewN BK475.out nd)
           have n6_ := Aside0.mk (blk_drewN BK498.out nd)
           have n7_ := Aside0.mk (blk_drewN BK503.out nd)
           have n8_ := Aside0.mk (blk_drewN BK508.out nd)
           have n9_ := Aside0.mk (pw_below_drewN HB.out nd)
           clear HO_476000; clear HO493; clear HO496; clear HO501; clear HO506; clear BK475; clear BK498; clear BK503; clear BK508; clear HB; have HO_476000 := n0_; have HO493 := n1_; have HO496 := n2_; have HO501 := n3_; have HO506 := n4_; have BK475 := n5_; have BK498 := n6_; have BK503 := n7_; have BK508 := n8_; have HB := n9_; clear n0_ n1_ n2_ n3_ n4_ n5_ n6_ n7_ n8_ n9_
           generalize w124.drewN nd = w124 at HO511 HO514 HO_476000 HO493 HO496 HO501 HO506 BK475 BK498 BK503 BK508 HB ⊢
           refine hK.out _ _ ((blk_cell BK508.out 0).trans rfl) (fun hHeld => ?_)
           clear hK K
           refine norm_ (a' := ?_) ?_ ?_
           rotate_left
           ·show Act.put _ (some 74) _ = _
            simp only [Act.put, List.setIfInBounds_toArray, List.set_cons_zero, List.set_cons_succ, i64_w, i32_w]
            rfl
           refine pure_ (i := 7) (N := some 75) (v := ?_) (a' := ?_) #[true, true, true, true, true, true, true, true] rfl rfl (any_of HT_.out (by kernel_rfl)) (fun _ _ _ h => h) (Or.inl ⟨by rfl, ?_⟩) ?_ ?_
           rotate_left
           ·intro w'
            go_simp
            with_reducible rfl
           rotate_left
           ·simp only [Act.put, List.setIfInBounds_toArray, List.set_cons_zero, List.set_cons_succ, i64_w, i32_w]
            rfl
           refine done_ (done_of HT_.out (by kernel_rfl)) ?_
           try go_wp2
           (try (rw [drewN_self w124]; generalize hq_ : World.drewN w124 _ = w124; have n0_ : Aside0 (Kd.R (Kd.int .u8) 5 w124 w.heap.size (fun _ => True) (.slice Ao102 t491.length co102) t491) := ⟨by rw [← hq_]; exact (kr HO493.out)⟩; have n1_ : Aside0 (Kd.S (Kd.slice 3 (Kd.int .i64)) 30 w124 w.heap.size (fun k_ => some k_ ≠ (.slice Ao110 t499.length co110 : Value).ownBlock ∧ some k_ ≠ (.slice Ao116 t504.length co116 : Value).ownBlock ∧ some k_ ≠ (.slice Ao125 t509.length co125 : Value).ownBlock ∧ some k_ ≠ (.slice Ao126 t512.length co126 : Value).ownBlock ∧ some k_ ≠ (.slice Ao9 t472.length co9 : Value).ownBlock) (.slice Ao105 t494.length co105) t494) := ⟨by rw [← hq_]; exact (ks (Kd.S_mono HO496.out (fun _ hk => ⟨hk.1.1.2.1, ⟨hk.1.1.2.2, ⟨hk.1.2, ⟨hk.2, hk.1.1.1⟩⟩⟩⟩)))⟩; have n2_ : Aside0 (Kd.S (Kd.slice 3 (Kd.int .i64)) 30 w124 w.heap.size (fun k_ => some k_ ≠ (.slice Ao105 t494.length co105 : Value).ownBlock ∧ some k_ ≠ (.slice Ao116 t504.length co116 : Value).ownBlock ∧ some k_ ≠ (.slice Ao125 t509.length co125 : Value).ownBlock ∧ some k_ ≠ (.slice Ao126 t512.length co126 : Value).ownBlock ∧ some k_ ≠ (.slice Ao9 t472.length co9 : Value).ownBlock) (.slice Ao110 t499.length co110) t499) := ⟨by rw [← hq_]; exact (ks (Kd.S_mono HO501.out (fun _ hk => ⟨hk.1.1.2.1, ⟨hk.1.1.2.2, ⟨hk.1.2, ⟨hk.2, hk.1.1.1⟩⟩⟩⟩)))⟩; have n3_ : Aside0 (Kd.S (cutK 3 (Kd.int .i64)) 30 w124 w.heap.size (fun k_ => some k_ ≠ (.slice Ao105 t494.length co105 : Value).ownBlock ∧ some k_ ≠ (.slice Ao110 t499.length co110 : Value).ownBlock ∧ some k_ ≠ (.slice Ao125 t509.length co125 : Value).ownBlock ∧ some k_ ≠ (.slice Ao126 t512.length co126 : Value).ownBlock ∧ some k_ ≠ (.slice Ao9 t472.length co9 : Value).ownBlock) (.slice Ao116 t504.length co116) t504) := ⟨by rw [← hq_]; exact (ks (Kd.S_mono HO506.out (fun _ hk => ⟨hk.1.1.2.1, ⟨hk.1.1.2.2, ⟨hk.1.2, ⟨hk.2, hk.1.1.1⟩⟩⟩⟩)))⟩; have n4_ : Aside0 (Kd.R (Kd.int .i64) 3 w124 w.heap.size (fun k_ => some k_ ≠ (.slice Ao126 t512.length co126 : Value).ownBlock) (.slice Ao125 t509.length co125) t509) := ⟨by rw [← hq_]; exact (kr (Kd.R_mono HO511.out (fun _ hk => hk.2)))⟩; have n5_ : Aside0 (Kd.R (Kd.int .i64) 3 w124 w.heap.size (fun k_ => some k_ ≠ (.slice Ao125 t509.length co125 : Value).ownBlock) (.slice Ao126 t512.length co126) t512) := ⟨by rw [← hq_]; exact (kr (Kd.R_mono HO514.out (fun _ hk => hk.2)))⟩; have n6_ : Aside0 (Kd.S (cutK 3 (Kd.int .i64)) 30 w124 w.heap.size (fun k_ => some k_ ≠ (.slice Ao105 t494.length co105 : Value).ownBlock ∧ some k_ ≠ (.slice Ao110 t499.length co110 : Value).ownBlock ∧ some k_ ≠ (.slice Ao116 t504.length co116 : Value).ownBlock ∧ some k_ ≠ (.slice Ao125 t509.length co125 : Value).ownBlock ∧ some k_ ≠ (.slice Ao126 t512.length co126 : Value).ownBlock) (.slice Ao9 t472.length co9) t472) := ⟨by rw [← hq_]; exact (ks (Kd.S_mono HO_476000.out (fun _ hk => ⟨hk.1.1.1, ⟨hk.1.1.2.1, ⟨hk.1.1.2.2, ⟨hk.1.2, hk.2⟩⟩⟩⟩)))⟩; have n7_ : Aside0 (w124.heap[gb475]? = some (.cells #[.slice Ao9 t472.length co9] 29 (0, 0))) := ⟨by rw [← hq_]; exact (kb BK475.out)⟩; have n8_ : Aside0 (w124.heap[gb498]? = some (.cells #[.slice Ao105 t494.length co105] 29 (0, 0))) := ⟨by rw [← hq_]; exact (kb BK498.out)⟩; have n9_ : Aside0 (w124.heap[gb503]? = some (.cells #[.slice Ao110 t499.length co110] 29 (0, 0))) := ⟨by rw [← hq_]; exact (kb BK503.out)⟩; have n10_ : Aside0 (w124.heap[gb508]? = some (.cells #[.slice Ao116 t504.length co116] 29 (0, 0))) := ⟨by rw [← hq_]; exact (kb BK508.out)⟩; have n11_ : Aside0 (Below w.heap.size w w124) := ⟨by rw [← hq_]; exact (bw HB.out)⟩; clear HO493 HO496 HO501 HO506 HO511 HO514 HO_476000 BK475 BK498 BK503 BK508 HB hq_; have HO493 := n0_; have HO496 := n1_; have HO501 := n2_; have HO506 := n3_; have HO511 := n4_; have HO514 := n5_; have HO_476000 := n6_; have BK475 := n7_; have BK498 := n8_; have BK503 := n9_; have BK508 := n10_; have HB := n11_; clear n0_ n1_ n2_ n3_ n4_ n5_ n6_ n7_ n8_ n9_ n10_ n11_))
           have n0_ := Aside0.mk (Kd.S_drew HO_476000.out)
           have n1_ := Aside0.mk (Kd.R_drew HO493.out)
           have n2_ := Aside0.mk (Kd.S_drew HO496.out)
           have n3_ := Aside0.mk (Kd.S_drew HO501.out)
           have n4_ := Aside0.mk (Kd.S_drew HO506.out)
           have n5_ := Aside0.mk (Kd.R_drew HO511.out)
           have n6_ := Aside0.mk (Kd.R_drew HO514.out)
           have n7_ := Aside0.mk (blk_drew BK475.out)
           have n8_ := Aside0.mk (blk_drew BK498.out)
           have n9_ := Aside0.mk (blk_drew BK503.out)
           have n10_ := Aside0.mk (blk_drew BK508.out)
           have n11_ := Aside0.mk (below_drew1 HB.out)
           clear HO_476000; clear HO493; clear HO496; clear HO501; clear HO506; clear HO511; clear HO514; clear BK475; clear BK498; clear BK503; clear BK508; clear HB; have HO_476000 := n0_; have HO493 := n1_; have HO496 := n2_; have HO501 := n3_; have HO506 := n4_; have HO511 := n5_; have HO514 := n6_; have BK475 := n7_; have BK498 := n8_; have BK503 := n9_; have BK508 := n10_; have HB := n11_; clear n0_ n1_ n2_ n3_ n4_ n5_ n6_ n7_ n8_ n9_ n10_ n11_
           refine start_ (n := 21) (S := fun w' => w'.cell? ⟨gb498, 0, none⟩ = some (.slice Ao105 t494.length co105)) (ds := []) #[false, false, false, false, false, false, false, false, false, false, false, false, false, false, false, false, false, false, false, false, false] (by kernel_rfl) rfl rfl ((blk_cell BK498.out 0).trans rfl) (fun hHeld => ?_); refine with_tabW laws_FnImage.tab19 laws_FnImage.bits19 (fun HT_ HW_ => ?_)
           generalize w124.drew = w127 at HO_476000 HO493 HO496 HO501 HO506 HO511 HO514 BK475 BK498 BK503 BK508 HB hHeld ⊢
           refine pure_ (i := 0) (N := some 76) (v := ?_) (a' := ?_) #[true, false, false, false, false, false, false, false, false, false, false, false, false, false, false, false, false, false, false, false, false] rfl rfl (any_of HT_.out (by kernel_rfl)) (fun _ _ _ h => h) (Or.inl ⟨by rfl, ?_⟩) ?_ ?_
           rotate_left
           ·intro w'
            go_simp
            with_reducible rfl
           rotate_left
           ·simp only [Act.put, List.setIfInBounds_toArray, List.set_cons_zero, List.set_cons_succ, i64_w, i32_w]
            rfl
           refine pure_ (i := 1) (N := some 77) (v := ?_) (a' := ?_) #[true, true, false, false, false, false, false, false, false, false, false, false, false, false, false, false, false, false, false, false, false] rfl rfl (any_of HT_.out (by kernel_rfl)) (fun _ _ _ h => h) (Or.inl ⟨by rfl, ?_⟩) ?_ ?_
           rotate_left
           ·intro w'
            go_simp
            with_reducible rfl
           rotate_left
           ·simp only [Act.put, List.setIfInBounds_toArray, List.set_cons_zero, List.set_cons_succ, i64_w, i32_w]
            rfl
           refine pure_ (i := 2) (N := some 78) (v := ?_) (a' := ?_) #[true, true, true, false, false, false, false, false, false, false, false, false, false, false, false, false, false, false, false, false, false] rfl rfl (any_of HT_.out (by kernel_rfl)) (fun _ _ _ h => h) (Or.inl ⟨by rfl, ?_⟩) ?_ ?_
           rotate_left
           ·intro w'
            go_simp
            with_reducible rfl
           rotate_left
           ·simp only [Act.put, List.setIfInBounds_toArray, List.set_cons_zero, List.set_cons_succ, i64_w, i32_w]
            rfl
           refine pure_ (i := 3) (N := some 79) (v := ?_) (a' := ?_) #[true, true, true, true, false, false, false, false, false, false, false, false, false, false, false, false, false, false, false, false, false] rfl rfl (any_of HT_.out (by kernel_rfl)) (fun _ _ _ h => h) (Or.inl ⟨by rfl, ?_⟩) ?_ ?_
           rotate_left
           ·intro w'
            go_simp
            with_reducible rfl
           rotate_left
           ·simp only [Act.put, List.setIfInBounds_toArray, List.set_cons_zero, List.set_cons_succ, i64_w, i32_w]
            rfl
           refine take_ (i := 4) (N := some 80) (v := ?_) (a' := ?_) #[true, true, true, true, true, false, false, false, false, false, false, false, false, false, false, false, false, false, false, false, false] rfl rfl (take_ofW HT_.out HW_.out (by kernel_rfl)) (fun _ _ _ h => h) (Or.inl ⟨by rfl, ?_⟩) hHeld ?_ ?_
           rotate_left
           ·intro w' s0
            go_simp
            with_reducible rfl
           rotate_left
           ·simp only [Act.put, List.setIfInBounds_toArray, List.set_cons_zero, List.set_cons_succ, i64_w, i32_w]
            rfl
           refine pure_ (i := 5) (N := some 81) (v := ?_) (a' := ?_) #[true, true, true, true, true, true, false, false, false, false, false, false, false, false, false, false, false, false, false, false, false] rfl rfl (any_of HT_.out (by kernel_rfl)) (fun _ _ _ h => h) (Or.inl ⟨by rfl, ?_⟩) ?_ ?_
           rotate_left
           ·intro w'
            go_simp
            with_reducible rfl
           rotate_left
           ·simp only [Act.put, List.setIfInBounds_toArray, List.set_cons_zero, List.set_cons_succ, i64_w, i32_w]
            rfl
           refine pure_ (i := 6) (N := some 82) (v := ?_) (a' := ?_) #[true, true, true, true, true, true, true, false, false, false, false, false, false, false, false, false, false, false, false, false, false] rfl rfl (any_of HT_.out (by kernel_rfl)) (fun _ _ _ h => h) (Or.inl ⟨by rfl, ?_⟩) ?_ ?_
           rotate_left
           ·intro w'
            go_simp
            with_reducible rfl
           rotate_left
           ·simp only [Act.put, List.setIfInBounds_toArray, List.set_cons_zero, List.set_cons_succ, i64_w, i32_w]
            rfl
           refine pure_ (i := 7) (N := some 83) (v := ?_) (a' := ?_) #[true, true, true, true, true, true, true, true, false, false, false, false, false, false, false, false, false, false, false, false, false] rfl rfl (any_of HT_.out (by kernel_rfl)) (fun _ _ _ h => h) (Or.inl ⟨by rfl, ?_⟩) ?_ ?_
           rotate_left
           ·intro w'
            go_simp
            with_reducible rfl
           rotate_left
           ·simp only [Act.put, List.setIfInBounds_toArray, List.set_cons_zero, List.set_cons_succ, i64_w, i32_w]
            rfl
           refine pure_ (i := 8) (N := some 84) (v := ?_) (a' := ?_) #[true, true, true, true, true, true, true, true, true, false, false, false, false, false, false, false, false, false, false, false, false] rfl rfl (any_of HT_.out (by kernel_rfl)) (fun _ _ _ h => h) (Or.inl ⟨by rfl, ?_⟩) ?_ ?_
           rotate_left
           ·intro w'
            go_simp
            with_reducible rfl
           rotate_left
           ·simp only [Act.put, List.setIfInBounds_toArray, List.set_cons_zero, List.set_cons_succ, i64_w, i32_w]
            rfl
           refine pure_ (i := 9) (N := some 85) (v := undef) (a' := ?_) #[true, true, true, true, true, true, true, true, true, true, false, false, false, false, false, false, false, false, false, false, false] rfl rfl (any_of HT_.out (by kernel_rfl)) (fun _ _ _ h => h) (Or.inr ⟨by rfl, rfl⟩) ?_ ?_
           rotate_left
           ·simp only [Act.put, List.setIfInBounds_toArray, List.set_cons_zero, List.set_cons_succ, i64_w, i32_w]
            rfl
           refine pure_ (i := 10) (N := some 86) (v := undef) (a' := ?_) #[true, true, true, true, true, true, true, true, true, true, true, false, false, false, false, false, false, false, false, false, false] rfl rfl (any_of HT_.out (by kernel_rfl)) (fun _ _ _ h => h) (Or.inr ⟨by rfl, rfl⟩) ?_ ?_
           rotate_left
           ·simp only [Act.put, List.setIfInBounds_toArray, List.set_cons_zero, List.set_cons_succ, i64_w, i32_w]
            rfl
           refine pure_ (i := 11) (N := some 87) (v := undef) (a' := ?_) #[true, true, true, true, true, true, true, true, true, true, true, true, false, false, false, false, false, false, false, false, false] rfl rfl (any_of HT_.out (by kernel_rfl)) (fun _ _ _ h => h) (Or.inr ⟨by rfl, rfl⟩) ?_ ?_
           rotate_left
           ·simp only [Act.put, List.setIfInBounds_toArray, List.set_cons_zero, List.set_cons_succ, i64_w, i32_w]
            rfl
           refine pure_ (i := 12) (N := some 88) (v := undef) (a' := ?_) #[true, true, true, true, true, true, true, true, true, true, true, true, true, false, false, false, false, false, false, false, false] rfl rfl (any_of HT_.out (by kernel_rfl)) (fun _ _ _ h => h) (Or.inr ⟨by rfl, rfl⟩) ?_ ?_
           rotate_left
           ·simp only [Act.put, List.setIfInBounds_toArray, List.set_cons_zero, List.set_cons_succ, i64_w, i32_w]
            rfl
           refine pure_ (i := 13) (N := some 89) (v := undef) (a' := ?_) #[true, true, true, true, true, true, true, true, true, true, true, true, true, true, false, false, false, false, false, false, false] rfl rfl (any_of HT_.out (by kernel_rfl)) (fun _ _ _ h => h) (Or.inr ⟨by rfl, rfl⟩) ?_ ?_
           rotate_left
           ·simp only [Act.put, List.setIfInBounds_toArray, List.set_cons_zero, List.set_cons_succ, i64_w, i32_w]
            rfl
           refine pure_ (i := 14) (N := some 90) (v := undef) (a' := ?_) #[true, true, true, true, true, true, true, true, true, true, true, true, true, true, true, false, false, false, false, false, false] rfl rfl (any_of HT_.out (by kernel_rfl)) (fun _ _ _ h => h) (Or.inr ⟨by rfl, rfl⟩) ?_ ?_
           rotate_left
           ·simp only [Act.put, List.setIfInBounds_toArray, List.set_cons_zero, List.set_cons_succ, i64_w, i32_w]
            rfl
           refine pure_ (i := 15) (N := some 91) (v := undef) (a' := ?_) #[true, true, true, true, true, true, true, true, true, true, true, true, true, true, true, true, false, false, false, false, false] rfl rfl (any_of HT_.out (by kernel_rfl)) (fun _ _ _ h => h) (Or.inr ⟨by rfl, rfl⟩) ?_ ?_
           rotate_left
           ·simp only [Act.put, List.setIfInBounds_toArray, List.set_cons_zero, List.set_cons_succ, i64_w, i32_w]
            rfl
           refine pure_ (i := 16) (N := some 92) (v := undef) (a' := ?_) #[true, true, true, true, true, true, true, true, true, true, true, true, true, true, true, true, true, false, false, false, false] rfl rfl (any_of HT_.out (by kernel_rfl)) (fun _ _ _ h => h) (Or.inr ⟨by rfl, rfl⟩) ?_ ?_
           rotate_left
           ·simp only [Act.put, List.setIfInBounds_toArray, List.set_cons_zero, List.set_cons_succ, i64_w, i32_w]
            rfl
           refine pure_ (i := 17) (N := some 93) (v := undef) (a' := ?_) #[true, true, true, true, true, true, true, true, true, true, true, true, true, true, true, true, true, true, false, false, false] rfl rfl (any_of HT_.out (by kernel_rfl)) (fun _ _ _ h => h) (Or.inr ⟨by rfl, rfl⟩) ?_ ?_
           rotate_left
           ·simp only [Act.put, List.setIfInBounds_toArray, List.set_cons_zero, List.set_cons_succ, i64_w, i32_w]
            rfl
           refine pure_ (i := 18) (N := some 94) (v := undef) (a' := ?_) #[true, true, true, true, true, true, true, true, true, true, true, true, true, true, true, true, true, true, true, false, false] rfl rfl (any_of HT_.out (by kernel_rfl)) (fun _ _ _ h => h) (Or.inr ⟨by rfl, rfl⟩) ?_ ?_
           rotate_left
           ·simp only [Act.put, List.setIfInBounds_toArray, List.set_cons_zero, List.set_cons_succ, i64_w, i32_w]
            rfl
           refine pure_ (i := 19) (N := some 95) (v := ?_) (a' := ?_) #[true, true, true, true, true, true, true, true, true, true, true, true, true, true, true, true, true, true, true, true, false] rfl rfl (any_of HT_.out (by kernel_rfl)) (fun _ _ _ h => h) (Or.inl ⟨by rfl, ?_⟩) ?_ ?_
           rotate_left
           ·intro w'
            go_simp
            with_reducible rfl
           rotate_left
           ·simp only [Act.put, List.setIfInBounds_toArray, List.set_cons_zero, List.set_cons_succ, i64_w, i32_w]
            rfl
           refine pure_ (i := 20) (N := some 2) (v := ?_) (a' := ?_) #[true, true, true, true, true, true, true, true, true, true, true, true, true, true, true, true, true, true, true, true, true] rfl rfl (any_of HT_.out (by kernel_rfl)) (fun _ _ _ h => h) (Or.inl ⟨by rfl, ?_⟩) ?_ ?_
           rotate_left
           ·intro w'
            go_simp
            with_reducible rfl
           rotate_left
           ·simp only [Act.put, List.setIfInBounds_toArray, List.set_cons_zero, List.set_cons_succ, i64_w, i32_w]
            rfl
           refine done_ (done_of HT_.out (by kernel_rfl)) ?_
           try go_wp2
           go_ret
           exact ⟨rt, bw HB.out⟩
          ·rw [if_neg c100] at H
           have c100b0 : ((t494.length : Int) == 0) = false := beq_eq_false_iff_ne.mpr c100
           have c100b1 : ((t494.length : Int) != 0) = true := bne_iff_ne.mpr c100
           have c100b2 : ¬ (t494 = []) := fun h_ => c100 (by rw [h_]; rfl)
           exact absurd ((Option.some.inj H).trans hrt) (by decide)
        ·replace c66 := Bool.eq_false_iff.mpr c66
         subst c66
         have H1 : (some false) = some r := by rw [if_neg (show ¬ (false = true) by decide)] at H; exact H
         clear H
         have H := H1
         clear H1
         exact absurd ((Option.some.inj H).trans hrt) (by decide)
       ·rw [if_neg c61] at H
        have c61b0 : (t497 == t502) = false := beq_eq_false_iff_ne.mpr c61
        have c61b1 : (t497 != t502) = true := bne_iff_ne.mpr c61
        exact absurd ((Option.some.inj H).trans hrt) (by decide)

end Go.Proofs.Ytmkccgbfgebfbaa.MFnImage
