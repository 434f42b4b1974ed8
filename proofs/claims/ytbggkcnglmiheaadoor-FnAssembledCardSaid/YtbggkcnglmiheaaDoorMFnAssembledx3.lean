/- Walks of functions that the law FnAssembled reaches: each comes to just what its Lean function says. (Begun as the texts that print.sh wrote for this claim; some of them, and those that it does not write, are mine.) No condition. -/
import Derived.Test.YtbggkcnglmiheaaDoorMFnAssembledx2
namespace Go.Proofs.YtbggkcnglmiheaaDoor.MFnAssembled
open Go.RowKit Go.Proofs.YtbggkcnglmiheaaDoorW.PrintWords Go.Proofs.YtbggkcnglmiheaaDoorW.PrintLast Go.Proofs.YtbggkcnglmiheaaDoorW.PrintMore
attribute [local go_sem] max2_int min2_int max_two min_two max_three min_three max_four min_four   -- for this text's walks alone
set_option linter.unusedVariables false
set_option linter.unusedSimpArgs false

/-! ### spec_DrawAssemble: function 20 -/
def spec_DrawAssemble.l0 : Nat → ByteArray → List Int → Int → Int → Option (ByteArray)
  | 0, _, _, _, _ => none
  | k + 1, x4, x301000, x301001, x301002 => (spec_l1Below.f x301000 x301001 x301002 2).bind fun bt319 => (if (x4.size : Int) < (wrap64 (3000 + bt319.1)) then (if x4.size + 1 ≤ 9223372036854775807 then (spec_DrawAssemble.l0 k (x4 ++ (⟨#[10]⟩ : ByteArray)) x301000 bt319.2.1 bt319.2.2) else (none)) else (some x4))
def spec_DrawAssemble.f (k : Nat) (l0 : List Int) : Option (ByteArray) := (spec_l1New.f k l0).bind fun bt297 => ((spec_l2Main.f bt297.1 bt297.2.1 bt297.2.2).bind fun bt301 => ((spec_l1Below.f bt297.1 bt301.2.1 bt301.2.2 (wrap64 ((bt301.1.size : Int) + 1))).bind fun bt304 => ((spec_l1Below.f bt297.1 bt304.2.1 bt304.2.2 6).bind fun bt307 => (if bt307.1 = 0 then (if 0 ≤ bt304.1 then (if bt304.1 ≤ (bt301.1.size : Int) then (some (bt301.1.extract 0 (bt304.1 : Int).toNat)) else (none)) else (none)) else (if bt307.1 = 1 then (if 0 ≤ bt304.1 then (if bt304.1 ≤ (bt301.1.size : Int) then ((spec_l1Pick.f bt297.1 bt307.2.1 bt307.2.2 (([(⟨#[32]⟩ : ByteArray), (⟨#[48]⟩ : ByteArray), (⟨#[10]⟩ : ByteArray), (⟨#[120]⟩ : ByteArray), (⟨#[108, 100, 105, 32, 50, 53, 54, 10]⟩ : ByteArray), (⟨#[98, 121, 116, 101, 32, 55, 10]⟩ : ByteArray), (⟨#[97, 116, 32, 50, 53, 53, 10, 108, 100, 97, 32, 53, 49, 51, 10]⟩ : ByteArray), (⟨#[110, 111, 112, 32, 49, 10]⟩ : ByteArray), (⟨#[106, 109, 112, 32, 54, 53, 53, 51, 54, 10]⟩ : ByteArray)] : List ByteArray))).bind fun bt313 => (if (bt301.1.extract 0 (bt304.1 : Int).toNat).size + bt313.1.size ≤ 9223372036854775807 then (if ((bt301.1.extract 0 (bt304.1 : Int).toNat) ++ bt313.1).size + (bt301.1.extract (bt304.1 : Int).toNat bt301.1.size).size ≤ 9223372036854775807 then (some (((bt301.1.extract 0 (bt304.1 : Int).toNat) ++ bt313.1) ++ (bt301.1.extract (bt304.1 : Int).toNat bt301.1.size))) else (none)) else (none))) else (none)) else (none)) else (if bt307.1 = 2 then ((spec_l1Once.f bt297.1 bt307.2.1 bt307.2.2 9).bind fun bt316 => (if bt316.1 = true then (spec_DrawAssemble.l0 k bt301.1 bt297.1 bt316.2.1 bt316.2.2) else (some bt301.1))) else (some bt301.1)))))))
def spec_DrawAssemble.T8 : Bool × List (List Nat × List Nat) := (true, [([], []), ([], []), ([0, 1], [0, 1]), ([], []), ([], []), ([3, 4], [3, 4]), ([2, 5], [2, 5]), ([], []), ([], []), ([7, 8], [7, 8]), ([6, 9], [6, 9]), ([10, 5, 0, 1, 2, 3, 4, 5, 6, 7, 8, 9, 10], [0, 7, 10])])
def spec_DrawAssemble.B8 : List Nat := [0, 0, 3, 0, 0, 24, 63, 0, 0, 384, 1023, 2047]
theorem spec_DrawAssemble.tab8 : rtab .any (opsOf Tryd.f20 8) = spec_DrawAssemble.T8 := by kernel_rfl
theorem spec_DrawAssemble.bits8 : waitsOk spec_DrawAssemble.T8.2 spec_DrawAssemble.B8 = true := by kernel_rfl
set_option maxHeartbeats 8000000 in
set_option maxRecDepth 100000 in
theorem spec_DrawAssemble.calls (k : Nat) (A0 : Option Addr) (c0 : Nat) (l0 : List Int) (r : ByteArray) (w : World) (hr0 : Kd.C (Kd.int .u8) w A0 l0.length l0) (hc0 : l0.length ≤ c0) (h : spec_DrawAssemble.f k l0 = some r) :
    Calls Tryd.prog 20 #[.slice A0 l0.length c0] w fun e w' => e = .returned (.string r) ∧ Below w.heap.size w w' := by
  have HR0 := Aside0.mk hr0
  have HC0 := Aside0.mk hc0
  clear hr0 hc0
  have HB := Aside0.mk (Below.refl w.heap.size w)
  have H : ((spec_l1New.f k l0).bind fun bt297 => ((spec_l2Main.f bt297.1 bt297.2.1 bt297.2.2).bind fun bt301 => ((spec_l1Below.f bt297.1 bt301.2.1 bt301.2.2 (wrap64 ((bt301.1.size : Int) + 1))).bind fun bt304 => ((spec_l1Below.f bt297.1 bt304.2.1 bt304.2.2 6).bind fun bt307 => (if bt307.1 = 0 then (if 0 ≤ bt304.1 then (if bt304.1 ≤ (bt301.1.size : Int) then (some (bt301.1.extract 0 (bt304.1 : Int).toNat)) else (none)) else (none)) else (if bt307.1 = 1 then (if 0 ≤ bt304.1 then (if bt304.1 ≤ (bt301.1.size : Int) then ((spec_l1Pick.f bt297.1 bt307.2.1 bt307.2.2 (([(⟨#[32]⟩ : ByteArray), (⟨#[48]⟩ : ByteArray), (⟨#[10]⟩ : ByteArray), (⟨#[120]⟩ : ByteArray), (⟨#[108, 100, 105, 32, 50, 53, 54, 10]⟩ : ByteArray), (⟨#[98, 121, 116, 101, 32, 55, 10]⟩ : ByteArray), (⟨#[97, 116, 32, 50, 53, 53, 10, 108, 100, 97, 32, 53, 49, 51, 10]⟩ : ByteArray), (⟨#[110, 111, 112, 32, 49, 10]⟩ : ByteArray), (⟨#[106, 109, 112, 32, 54, 53, 53, 51, 54, 10]⟩ : ByteArray)] : List ByteArray))).bind fun bt313 => (if (bt301.1.extract 0 (bt304.1 : Int).toNat).size + bt313.1.size ≤ 9223372036854775807 then (if ((bt301.1.extract 0 (bt304.1 : Int).toNat) ++ bt313.1).size + (bt301.1.extract (bt304.1 : Int).toNat bt301.1.size).size ≤ 9223372036854775807 then (some (((bt301.1.extract 0 (bt304.1 : Int).toNat) ++ bt313.1) ++ (bt301.1.extract (bt304.1 : Int).toNat bt301.1.size))) else (none)) else (none))) else (none)) else (none)) else (if bt307.1 = 2 then ((spec_l1Once.f bt297.1 bt307.2.1 bt307.2.2 9).bind fun bt316 => (if bt316.1 = true then (spec_DrawAssemble.l0 k bt301.1 bt297.1 bt316.2.1 bt316.2.2) else (some bt301.1))) else (some bt301.1)))))))) = some r := h
  clear h
  replace H := Option.bind_eq_some_iff.mp H
  obtain ⟨⟨t297, t298, t299⟩, A20, H⟩ := H
  replace H : ((spec_l2Main.f t297 t298 t299).bind fun bt301 => ((spec_l1Below.f t297 bt301.2.1 bt301.2.2 (wrap64 ((bt301.1.size : Int) + 1))).bind fun bt304 => ((spec_l1Below.f t297 bt304.2.1 bt304.2.2 6).bind fun bt307 => (if bt307.1 = 0 then (if 0 ≤ bt304.1 then (if bt304.1 ≤ (bt301.1.size : Int) then (some (bt301.1.extract 0 (bt304.1 : Int).toNat)) else (none)) else (none)) else (if bt307.1 = 1 then (if 0 ≤ bt304.1 then (if bt304.1 ≤ (bt301.1.size : Int) then ((spec_l1Pick.f t297 bt307.2.1 bt307.2.2 (([(⟨#[32]⟩ : ByteArray), (⟨#[48]⟩ : ByteArray), (⟨#[10]⟩ : ByteArray), (⟨#[120]⟩ : ByteArray), (⟨#[108, 100, 105, 32, 50, 53, 54, 10]⟩ : ByteArray), (⟨#[98, 121, 116, 101, 32, 55, 10]⟩ : ByteArray), (⟨#[97, 116, 32, 50, 53, 53, 10, 108, 100, 97, 32, 53, 49, 51, 10]⟩ : ByteArray), (⟨#[110, 111, 112, 32, 49, 10]⟩ : ByteArray), (⟨#[106, 109, 112, 32, 54, 53, 53, 51, 54, 10]⟩ : ByteArray)] : List ByteArray))).bind fun bt313 => (if (bt301.1.extract 0 (bt304.1 : Int).toNat).size + bt313.1.size ≤ 9223372036854775807 then (if ((bt301.1.extract 0 (bt304.1 : Int).toNat) ++ bt313.1).size + (bt301.1.extract (bt304.1 : Int).toNat bt301.1.size).size ≤ 9223372036854775807 then (some (((bt301.1.extract 0 (bt304.1 : Int).toNat) ++ bt313.1) ++ (bt301.1.extract (bt304.1 : Int).toNat bt301.1.size))) else (none)) else (none))) else (none)) else (none)) else (if bt307.1 = 2 then ((spec_l1Once.f t297 bt307.2.1 bt307.2.2 9).bind fun bt316 => (if bt316.1 = true then (spec_DrawAssemble.l0 k bt301.1 t297 bt316.2.1 bt316.2.2) else (some bt301.1))) else (some bt301.1))))))) = some r := H
  have A2 := Aside0.mk A20
  clear A20
  replace H := Option.bind_eq_some_iff.mp H
  obtain ⟨⟨t301, t302, t303⟩, A30, H⟩ := H
  replace H : ((spec_l1Below.f t297 t302 t303 (wrap64 ((t301.size : Int) + 1))).bind fun bt304 => ((spec_l1Below.f t297 bt304.2.1 bt304.2.2 6).bind fun bt307 => (if bt307.1 = 0 then (if 0 ≤ bt304.1 then (if bt304.1 ≤ (t301.size : Int) then (some (t301.extract 0 (bt304.1 : Int).toNat)) else (none)) else (none)) else (if bt307.1 = 1 then (if 0 ≤ bt304.1 then (if bt304.1 ≤ (t301.size : Int) then ((spec_l1Pick.f t297 bt307.2.1 bt307.2.2 (([(⟨#[32]⟩ : ByteArray), (⟨#[48]⟩ : ByteArray), (⟨#[10]⟩ : ByteArray), (⟨#[120]⟩ : ByteArray), (⟨#[108, 100, 105, 32, 50, 53, 54, 10]⟩ : ByteArray), (⟨#[98, 121, 116, 101, 32, 55, 10]⟩ : ByteArray), (⟨#[97, 116, 32, 50, 53, 53, 10, 108, 100, 97, 32, 53, 49, 51, 10]⟩ : ByteArray), (⟨#[110, 111, 112, 32, 49, 10]⟩ : ByteArray), (⟨#[106, 109, 112, 32, 54, 53, 53, 51, 54, 10]⟩ : ByteArray)] : List ByteArray))).bind fun bt313 => (if (t301.extract 0 (bt304.1 : Int).toNat).size + bt313.1.size ≤ 9223372036854775807 then (if ((t301.extract 0 (bt304.1 : Int).toNat) ++ bt313.1).size + (t301.extract (bt304.1 : Int).toNat t301.size).size ≤ 9223372036854775807 then (some (((t301.extract 0 (bt304.1 : Int).toNat) ++ bt313.1) ++ (t301.extract (bt304.1 : Int).toNat t301.size))) else (none)) else (none))) else (none)) else (none)) else (if bt307.1 = 2 then ((spec_l1Once.f t297 bt307.2.1 bt307.2.2 9).bind fun bt316 => (if bt316.1 = true then (spec_DrawAssemble.l0 k t301 t297 bt316.2.1 bt316.2.2) else (some t301))) else (some t301)))))) = some r := H
  have A3 := Aside0.mk A30
  clear A30
  replace H := Option.bind_eq_some_iff.mp H
  obtain ⟨⟨t304, t305, t306⟩, A40, H⟩ := H
  replace H : ((spec_l1Below.f t297 t305 t306 6).bind fun bt307 => (if bt307.1 = 0 then (if 0 ≤ t304 then (if t304 ≤ (t301.size : Int) then (some (t301.extract 0 (t304 : Int).toNat)) else (none)) else (none)) else (if bt307.1 = 1 then (if 0 ≤ t304 then (if t304 ≤ (t301.size : Int) then ((spec_l1Pick.f t297 bt307.2.1 bt307.2.2 (([(⟨#[32]⟩ : ByteArray), (⟨#[48]⟩ : ByteArray), (⟨#[10]⟩ : ByteArray), (⟨#[120]⟩ : ByteArray), (⟨#[108, 100, 105, 32, 50, 53, 54, 10]⟩ : ByteArray), (⟨#[98, 121, 116, 101, 32, 55, 10]⟩ : ByteArray), (⟨#[97, 116, 32, 50, 53, 53, 10, 108, 100, 97, 32, 53, 49, 51, 10]⟩ : ByteArray), (⟨#[110, 111, 112, 32, 49, 10]⟩ : ByteArray), (⟨#[106, 109, 112, 32, 54, 53, 53, 51, 54, 10]⟩ : ByteArray)] : List ByteArray))).bind fun bt313 => (if (t301.extract 0 (t304 : Int).toNat).size + bt313.1.size ≤ 9223372036854775807 then (if ((t301.extract 0 (t304 : Int).toNat) ++ bt313.1).size + (t301.extract (t304 : Int).toNat t301.size).size ≤ 9223372036854775807 then (some (((t301.extract 0 (t304 : Int).toNat) ++ bt313.1) ++ (t301.extract (t304 : Int).toNat t301.size))) else (none)) else (none))) else (none)) else (none)) else (if bt307.1 = 2 then ((spec_l1Once.f t297 bt307.2.1 bt307.2.2 9).bind fun bt316 => (if bt316.1 = true then (spec_DrawAssemble.l0 k t301 t297 bt316.2.1 bt316.2.2) else (some t301))) else (some t301))))) = some r := H
  have A4 := Aside0.mk A40
  clear A40
  replace H := Option.bind_eq_some_iff.mp H
  obtain ⟨⟨t307, t308, t309⟩, A50, H⟩ := H
  replace H : (if t307 = 0 then (if 0 ≤ t304 then (if t304 ≤ (t301.size : Int) then (some (t301.extract 0 (t304 : Int).toNat)) else (none)) else (none)) else (if t307 = 1 then (if 0 ≤ t304 then (if t304 ≤ (t301.size : Int) then ((spec_l1Pick.f t297 t308 t309 (([(⟨#[32]⟩ : ByteArray), (⟨#[48]⟩ : ByteArray), (⟨#[10]⟩ : ByteArray), (⟨#[120]⟩ : ByteArray), (⟨#[108, 100, 105, 32, 50, 53, 54, 10]⟩ : ByteArray), (⟨#[98, 121, 116, 101, 32, 55, 10]⟩ : ByteArray), (⟨#[97, 116, 32, 50, 53, 53, 10, 108, 100, 97, 32, 53, 49, 51, 10]⟩ : ByteArray), (⟨#[110, 111, 112, 32, 49, 10]⟩ : ByteArray), (⟨#[106, 109, 112, 32, 54, 53, 53, 51, 54, 10]⟩ : ByteArray)] : List ByteArray))).bind fun bt313 => (if (t301.extract 0 (t304 : Int).toNat).size + bt313.1.size ≤ 9223372036854775807 then (if ((t301.extract 0 (t304 : Int).toNat) ++ bt313.1).size + (t301.extract (t304 : Int).toNat t301.size).size ≤ 9223372036854775807 then (some (((t301.extract 0 (t304 : Int).toNat) ++ bt313.1) ++ (t301.extract (t304 : Int).toNat t301.size))) else (none)) else (none))) else (none)) else (none)) else (if t307 = 2 then ((spec_l1Once.f t297 t308 t309 9).bind fun bt316 => (if bt316.1 = true then (spec_DrawAssemble.l0 k t301 t297 bt316.2.1 bt316.2.2) else (some t301))) else (some t301)))) = some r := H
  have A5 := Aside0.mk A50
  clear A50
  by_cases c6 : t307 = 0
  · rw [if_pos c6] at H
    have c6b0 : (t307 == 0) = true := beq_iff_eq.mpr c6
    have c6b1 : (t307 != 0) = false := bne_eq_false_iff_eq.mpr c6
    clear c6
    by_cases c7 : 0 ≤ t304
    · rw [if_pos c7] at H
      have c7b0 := eq_true c7
      have c7b1 : decide (0 ≤ t304) = true := decide_eq_true c7
      clear c7
      by_cases c8 : t304 ≤ (t301.size : Int)
      · rw [if_pos c8] at H
        have c8b0 := eq_true c8
        have c8b1 : decide (t304 ≤ (t301.size : Int)) = true := decide_eq_true c8
        clear c8
        obtain rfl := Option.some.inj H
        go_enter Tryd.func20, Tryd.ntmps20
        go_wp2_with (first | ((with_reducible refine gate_callee (f := 30) rfl ?_); refine goesL_ (some 7) rfl rfl Tryd.func30 (by kernel_rfl) rfl #[.slice A0 l0.length c0] rfl (by (try simp only [List.map_toArray, List.map_cons, List.map_nil]); first | done | rfl | (simp only [List.length_drop, List.length_take]; rfl)) ?_; (with_reducible refine (spec_l1New.calls k _ _ l0 t297 t298 t299 w _ ?side1 ?side2 ?side3 A2.out).mono ?_); (case side1 => repeat (first | (with_reducible first | exact HB.out | apply below_alloc | apply pw_below_drewN | apply below_drew1) | exact HB.out)); (case side2 => exact HR0.out); (case side3 => exact HC0.out); rintro e w9 ⟨g300, rfl, hi, hb, hb2⟩; refine ⟨_, rfl, ?_⟩; have n0_ := Aside0.mk (hb); have n1_ := Aside0.mk (hi); clear HB; have HB := n0_; have HI300 := n1_; clear n0_ n1_; (try clear hb); (try clear hb2); (try clear hk); (try clear hi)) | ((with_reducible refine gate_callee (f := 46) rfl ?_); refine goesL_ (some 9) rfl rfl Tryd.func46 (by kernel_rfl) rfl #[.pointer (some ⟨g300, 0, none⟩)] rfl (by (try simp only [List.map_toArray, List.map_cons, List.map_nil]); first | done | rfl | (simp only [List.length_drop, List.length_take]; rfl)) ?_; (with_reducible refine (spec_l2Main.calls g300 t297 t298 t299 t301 t302 t303 w _ ?side1 ?side2 A3.out).mono ?_); (case side1 => repeat (first | (with_reducible first | exact HI300.out | apply IsS75.alloc | apply IsS75.drewN | apply IsS75.drew | apply IsS75.set_1 | apply IsS75.set_2) | exact HI300.out)); (case side2 => repeat (first | (with_reducible first | exact HB.out | apply below_alloc | apply pw_below_drewN | apply below_drew1 | refine below_set ?_ (IsS75.ge HI300.out)) | exact HB.out)); rintro e w10 ⟨rfl, hi, hb, hk⟩; refine ⟨_, rfl, ?_⟩; have n0_ := Aside0.mk (hb); have n1_ := Aside0.mk (hi); clear HB; clear HI300; have HB := n0_; have HI300 := n1_; clear n0_ n1_; (try clear hb); (try clear hb2); (try clear hk); (try clear hi)) | ((with_reducible refine gate_callee (f := 47) rfl ?_); refine goesL_ (some 14) rfl rfl Tryd.func47 (by kernel_rfl) rfl #[.pointer (some ⟨g300, 0, none⟩), .int .i64 (wrap64 ((t301.size : Int) + 1))] rfl (by (try simp only [List.map_toArray, List.map_cons, List.map_nil]); first | done | rfl | (simp only [List.length_drop, List.length_take]; rfl)) ?_; (with_reducible refine (spec_l1Below.calls g300 t297 t302 t303 (wrap64 ((t301.size : Int) + 1)) t304 t305 t306 w _ ?side1 ?side2 A4.out).mono ?_); (case side1 => repeat (first | (with_reducible first | exact HI300.out | apply IsS75.alloc | apply IsS75.drewN | apply IsS75.drew | apply IsS75.set_1 | apply IsS75.set_2) | exact HI300.out)); (case side2 => repeat (first | (with_reducible first | exact HB.out | apply below_alloc | apply pw_below_drewN | apply below_drew1 | refine below_set ?_ (IsS75.ge HI300.out)) | exact HB.out)); rintro e w11 ⟨rfl, hi, hb, hk⟩; refine ⟨_, rfl, ?_⟩; have n0_ := Aside0.mk (hb); have n1_ := Aside0.mk (hi); clear HB; clear HI300; have HB := n0_; have HI300 := n1_; clear n0_ n1_; (try clear hb); (try clear hb2); (try clear hk); (try clear hi)) | ((with_reducible refine gate_callee (f := 47) rfl ?_); refine goesL_ (some 16) rfl rfl Tryd.func47 (by kernel_rfl) rfl #[.pointer (some ⟨g300, 0, none⟩), .int .i64 6] rfl (by (try simp only [List.map_toArray, List.map_cons, List.map_nil]); first | done | rfl | (simp only [List.length_drop, List.length_take]; rfl)) ?_; (with_reducible refine (spec_l1Below.calls g300 t297 t305 t306 6 t307 t308 t309 w _ ?side1 ?side2 A5.out).mono ?_); (case side1 => repeat (first | (with_reducible first | exact HI300.out | apply IsS75.alloc | apply IsS75.drewN | apply IsS75.drew | apply IsS75.set_1 | apply IsS75.set_2) | exact HI300.out)); (case side2 => repeat (first | (with_reducible first | exact HB.out | apply below_alloc | apply pw_below_drewN | apply below_drew1 | refine below_set ?_ (IsS75.ge HI300.out)) | exact HB.out)); rintro e w12 ⟨rfl, hi, hb, hk⟩; refine ⟨_, rfl, ?_⟩; have n0_ := Aside0.mk (hb); have n1_ := Aside0.mk (hi); clear HB; clear HI300; have HB := n0_; have HI300 := n1_; clear n0_ n1_; (try clear hb); (try clear hb2); (try clear hk); (try clear hi)))
        go_ret
        exact ⟨by first | rfl | (simp [errW_none, errW_some] <;> rfl) | (simp [*, errW_none, errW_some] <;> rfl), by repeat (first | (with_reducible first | exact HB.out | apply below_alloc | apply pw_below_drewN | apply below_drew1 | refine below_set ?_ (IsS75.ge HI300.out)) | exact HB.out)⟩
      · rw [if_neg c8] at H
        exact absurd H (by simp)
    · rw [if_neg c7] at H
      exact absurd H (by simp)
  · rw [if_neg c6] at H
    have c6b0 : (t307 == 0) = false := beq_eq_false_iff_ne.mpr c6
    have c6b1 : (t307 != 0) = true := bne_iff_ne.mpr c6
    by_cases c13 : t307 = 1
    · rw [if_pos c13] at H
      have c13b0 : (t307 == 1) = true := beq_iff_eq.mpr c13
      have c13b1 : (t307 != 1) = false := bne_eq_false_iff_eq.mpr c13
      clear c13
      by_cases c14 : 0 ≤ t304
      · rw [if_pos c14] at H
        have c14b0 := eq_true c14
        have c14b1 : decide (0 ≤ t304) = true := decide_eq_true c14
        clear c14
        by_cases c15 : t304 ≤ (t301.size : Int)
        · rw [if_pos c15] at H
          have c15b0 := eq_true c15
          have c15b1 : decide (t304 ≤ (t301.size : Int)) = true := decide_eq_true c15
          clear c15
          obtain ⟨y310, hy310⟩ : ∃ y_ : List ByteArray, y_ = (([(⟨#[32]⟩ : ByteArray), (⟨#[48]⟩ : ByteArray), (⟨#[10]⟩ : ByteArray), (⟨#[120]⟩ : ByteArray), (⟨#[108, 100, 105, 32, 50, 53, 54, 10]⟩ : ByteArray), (⟨#[98, 121, 116, 101, 32, 55, 10]⟩ : ByteArray), (⟨#[97, 116, 32, 50, 53, 53, 10, 108, 100, 97, 32, 53, 49, 51, 10]⟩ : ByteArray), (⟨#[110, 111, 112, 32, 49, 10]⟩ : ByteArray), (⟨#[106, 109, 112, 32, 54, 53, 53, 51, 54, 10]⟩ : ByteArray)] : List ByteArray)) := ⟨_, rfl⟩
          replace H : ((spec_l1Pick.f t297 t308 t309 y310).bind fun bt313 => (if (t301.extract 0 (t304 : Int).toNat).size + bt313.1.size ≤ 9223372036854775807 then (if ((t301.extract 0 (t304 : Int).toNat) ++ bt313.1).size + (t301.extract (t304 : Int).toNat t301.size).size ≤ 9223372036854775807 then (some (((t301.extract 0 (t304 : Int).toNat) ++ bt313.1) ++ (t301.extract (t304 : Int).toNat t301.size))) else (none)) else (none))) = some r := by first | (rw [hy310]; with_reducible exact H) | (have H2_ := (Option.bind_some _ _).symm.trans H; rw [hy310]; with_reducible exact H2_) | (have H2_ := (Option.bind_some _ _).symm.trans H; with_reducible exact H2_) | with_reducible exact H | (rw [hy310]; exact H) | exact H
          have Ny310 := Aside0.mk hy310
          clear hy310
          replace H := Option.bind_eq_some_iff.mp H
          obtain ⟨⟨t313, t314, t315⟩, A160, H⟩ := H
          replace H : (if (t301.extract 0 (t304 : Int).toNat).size + t313.size ≤ 9223372036854775807 then (if ((t301.extract 0 (t304 : Int).toNat) ++ t313).size + (t301.extract (t304 : Int).toNat t301.size).size ≤ 9223372036854775807 then (some (((t301.extract 0 (t304 : Int).toNat) ++ t313) ++ (t301.extract (t304 : Int).toNat t301.size))) else (none)) else (none)) = some r := H
          have A16 := Aside0.mk A160
          clear A160
          by_cases c17 : (t301.extract 0 (t304 : Int).toNat).size + t313.size ≤ 9223372036854775807
          · rw [if_pos c17] at H
            have c17b0 := eq_true c17
            have c17b1 : decide ((t301.extract 0 (t304 : Int).toNat).size + t313.size ≤ 9223372036854775807) = true := decide_eq_true c17
            try have c17b2 : (9223372036854775807 < (t301.extract 0 (t304 : Int).toNat).size + t313.size) = False := eq_false (Nat.not_lt.2 c17)
            have c17g : (9223372036854775807 < t304.toNat + t313.size) = False := eq_false (by have h_ := c17; have hl_ : t304 ≤ (t301.size : Int) := of_decide_eq_true (by first | (with_reducible assumption) | assumption); rw [ByteArray.size_extract] at h_; omega)
            have c18b0 := eq_true (of_decide_eq_true (by first | (with_reducible assumption) | assumption) : 0 ≤ t304)
            have c19b0 := eq_true (of_decide_eq_true (by first | (with_reducible assumption) | assumption) : t304 ≤ (t301.size : Int))
            by_cases c20 : ((t301.extract 0 (t304 : Int).toNat) ++ t313).size + (t301.extract (t304 : Int).toNat t301.size).size ≤ 9223372036854775807
            · rw [if_pos c20] at H
              have c20b0 := eq_true c20
              have c20b1 : decide (((t301.extract 0 (t304 : Int).toNat) ++ t313).size + (t301.extract (t304 : Int).toNat t301.size).size ≤ 9223372036854775807) = true := decide_eq_true c20
              try have c20b2 : (9223372036854775807 < ((t301.extract 0 (t304 : Int).toNat) ++ t313).size + (t301.extract (t304 : Int).toNat t301.size).size) = False := eq_false (Nat.not_lt.2 c20)
              have c20g : (9223372036854775807 < t304.toNat + t313.size + (t301.size - t304.toNat)) = False := eq_false (by have h_ := c20; have hl_ : t304 ≤ (t301.size : Int) := of_decide_eq_true (by first | (with_reducible assumption) | assumption); rw [ByteArray.size_append, ByteArray.size_extract, ByteArray.size_extract] at h_; omega)
              obtain rfl := Option.some.inj H
              go_enter Tryd.func20, Tryd.ntmps20
              try go_wp2_with (first | ((with_reducible refine gate_callee (f := 30) rfl ?_); refine goesL_ (some 7) rfl rfl Tryd.func30 (by kernel_rfl) rfl #[.slice A0 l0.length c0] rfl (by (try simp only [List.map_toArray, List.map_cons, List.map_nil]); first | done | rfl | (simp only [List.length_drop, List.length_take]; rfl)) ?_; (with_reducible refine (spec_l1New.calls k _ _ l0 t297 t298 t299 w _ ?side1 ?side2 ?side3 A2.out).mono ?_); (case side1 => repeat (first | (with_reducible first | exact HB.out | apply below_alloc | apply pw_below_drewN | apply below_drew1) | exact HB.out)); (case side2 => exact HR0.out); (case side3 => exact HC0.out); rintro e w21 ⟨g300, rfl, hi, hb, hb2⟩; refine ⟨_, rfl, ?_⟩; have n0_ := Aside0.mk (hb); have n1_ := Aside0.mk (hi); clear HB; have HB := n0_; have HI300 := n1_; clear n0_ n1_; (try clear hb); (try clear hb2); (try clear hk); (try clear hi)) | ((with_reducible refine gate_callee (f := 46) rfl ?_); refine goesL_ (some 9) rfl rfl Tryd.func46 (by kernel_rfl) rfl #[.pointer (some ⟨g300, 0, none⟩)] rfl (by (try simp only [List.map_toArray, List.map_cons, List.map_nil]); first | done | rfl | (simp only [List.length_drop, List.length_take]; rfl)) ?_; (with_reducible refine (spec_l2Main.calls g300 t297 t298 t299 t301 t302 t303 w _ ?side1 ?side2 A3.out).mono ?_); (case side1 => repeat (first | (with_reducible first | exact HI300.out | apply IsS75.alloc | apply IsS75.drewN | apply IsS75.drew | apply IsS75.set_1 | apply IsS75.set_2) | exact HI300.out)); (case side2 => repeat (first | (with_reducible first | exact HB.out | apply below_alloc | apply pw_below_drewN | apply below_drew1 | refine below_set ?_ (IsS75.ge HI300.out)) | exact HB.out)); rintro e w22 ⟨rfl, hi, hb, hk⟩; refine ⟨_, rfl, ?_⟩; have n0_ := Aside0.mk (hb); have n1_ := Aside0.mk (hi); clear HB; clear HI300; have HB := n0_; have HI300 := n1_; clear n0_ n1_; (try clear hb); (try clear hb2); (try clear hk); (try clear hi)) | ((with_reducible refine gate_callee (f := 47) rfl ?_); refine goesL_ (some 14) rfl rfl Tryd.func47 (by kernel_rfl) rfl #[.pointer (some ⟨g300, 0, none⟩), .int .i64 (wrap64 ((t301.size : Int) + 1))] rfl (by (try simp only [List.map_toArray, List.map_cons, List.map_nil]); first | done | rfl | (simp only [List.length_drop, List.length_take]; rfl)) ?_; (with_reducible refine (spec_l1Below.calls g300 t297 t302 t303 (wrap64 ((t301.size : Int) + 1)) t304 t305 t306 w _ ?side1 ?side2 A4.out).mono ?_); (case side1 => repeat (first | (with_reducible first | exact HI300.out | apply IsS75.alloc | apply IsS75.drewN | apply IsS75.drew | apply IsS75.set_1 | apply IsS75.set_2) | exact HI300.out)); (case side2 => repeat (first | (with_reducible first | exact HB.out | apply below_alloc | apply pw_below_drewN | apply below_drew1 | refine below_set ?_ (IsS75.ge HI300.out)) | exact HB.out)); rintro e w23 ⟨rfl, hi, hb, hk⟩; refine ⟨_, rfl, ?_⟩; have n0_ := Aside0.mk (hb); have n1_ := Aside0.mk (hi); clear HB; clear HI300; have HB := n0_; have HI300 := n1_; clear n0_ n1_; (try clear hb); (try clear hb2); (try clear hk); (try clear hi)) | ((with_reducible refine gate_callee (f := 47) rfl ?_); refine goesL_ (some 16) rfl rfl Tryd.func47 (by kernel_rfl) rfl #[.pointer (some ⟨g300, 0, none⟩), .int .i64 6] rfl (by (try simp only [List.map_toArray, List.map_cons, List.map_nil]); first | done | rfl | (simp only [List.length_drop, List.length_take]; rfl)) ?_; (with_reducible refine (spec_l1Below.calls g300 t297 t305 t306 6 t307 t308 t309 w _ ?side1 ?side2 A5.out).mono ?_); (case side1 => repeat (first | (with_reducible first | exact HI300.out | apply IsS75.alloc | apply IsS75.drewN | apply IsS75.drew | apply IsS75.set_1 | apply IsS75.set_2) | exact HI300.out)); (case side2 => repeat (first | (with_reducible first | exact HB.out | apply below_alloc | apply pw_below_drewN | apply below_drew1 | refine below_set ?_ (IsS75.ge HI300.out)) | exact HB.out)); rintro e w24 ⟨rfl, hi, hb, hk⟩; refine ⟨_, rfl, ?_⟩; have n0_ := Aside0.mk (hb); have n1_ := Aside0.mk (hi); clear HB; clear HI300; have HB := n0_; have HI300 := n1_; clear n0_ n1_; (try clear hb); (try clear hb2); (try clear hk); (try clear hi)))
              have n0_ := Aside0.mk (IsS75.drew HI300.out)
              have n1_ := Aside0.mk (below_drew1 HB.out)
              clear HI300
              clear HB
              have HI300 := n0_
              have HB := n1_
              clear n0_ n1_
              refine start_ (n := 12) (S := fun w' => True) (ds := []) #[false, false, false, false, false, false, false, false, false, false, false, false] (by kernel_rfl) rfl rfl trivial (fun hHeld => ?_); refine with_tabW spec_DrawAssemble.tab8 spec_DrawAssemble.bits8 (fun HT_ HW_ => ?_)
              generalize w24.drew = w25 at HI300 HB hHeld ⊢
              refine pure_ (i := 0) (N := some 24) (v := ?_) (a' := ?_) #[true, false, false, false, false, false, false, false, false, false, false, false] rfl rfl (any_of HT_.out (by kernel_rfl)) (fun _ _ _ h => h) (Or.inl ⟨by rfl, ?_⟩) ?_ ?_
              rotate_left
              · intro w'
                go_simp
                with_reducible rfl
              rotate_left
              · simp only [Act.put, List.setIfInBounds_toArray, List.set_cons_zero, List.set_cons_succ, i64_w, i32_w]
                rfl
              refine pure_ (i := 1) (N := some 25) (v := ?_) (a' := ?_) #[true, true, false, false, false, false, false, false, false, false, false, false] rfl rfl (any_of HT_.out (by kernel_rfl)) (fun _ _ _ h => h) (Or.inl ⟨by rfl, ?_⟩) ?_ ?_
              rotate_left
              · intro w'
                go_simp
                with_reducible rfl
              rotate_left
              · simp only [Act.put, List.setIfInBounds_toArray, List.set_cons_zero, List.set_cons_succ, i64_w, i32_w]
                rfl
              refine pure_ (i := 2) (N := some 26) (v := ?_) (a' := ?_) #[true, true, true, false, false, false, false, false, false, false, false, false] rfl rfl (any_of HT_.out (by kernel_rfl)) (fun _ _ _ h => h) (Or.inl ⟨by rfl, ?_⟩) ?_ ?_
              rotate_left
              · intro w'
                go_simp
                with_reducible rfl
              rotate_left
              · simp only [Act.put, List.setIfInBounds_toArray, List.set_cons_zero, List.set_cons_succ, i64_w, i32_w]
                rfl
              refine pure_ (i := 3) (N := some 27) (v := ?_) (a' := ?_) #[true, true, true, true, false, false, false, false, false, false, false, false] rfl rfl (any_of HT_.out (by kernel_rfl)) (fun _ _ _ h => h) (Or.inl ⟨by rfl, ?_⟩) ?_ ?_
              rotate_left
              · intro w'
                go_simp
                with_reducible rfl
              rotate_left
              · simp only [Act.put, List.setIfInBounds_toArray, List.set_cons_zero, List.set_cons_succ, i64_w, i32_w]
                rfl
              refine pure_ (i := 7) (N := some 31) (v := ?_) (a' := ?_) #[true, true, true, true, false, false, false, true, false, false, false, false] rfl rfl (any_of HT_.out (by kernel_rfl)) (fun _ _ _ h => h) (Or.inl ⟨by rfl, ?_⟩) ?_ ?_
              rotate_left
              · intro w'
                go_simp
                with_reducible rfl
              rotate_left
              · simp only [Act.put, List.setIfInBounds_toArray, List.set_cons_zero, List.set_cons_succ, i64_w, i32_w]
                rfl
              refine pure_ (i := 8) (N := some 32) (v := ?_) (a' := ?_) #[true, true, true, true, false, false, false, true, true, false, false, false] rfl rfl (any_of HT_.out (by kernel_rfl)) (fun _ _ _ h => h) (Or.inl ⟨by rfl, ?_⟩) ?_ ?_
              rotate_left
              · intro w'
                go_simp
                with_reducible rfl
              rotate_left
              · simp only [Act.put, List.setIfInBounds_toArray, List.set_cons_zero, List.set_cons_succ, i64_w, i32_w]
                rfl
              refine pure_ (i := 9) (N := some 33) (v := ?_) (a' := ?_) #[true, true, true, true, false, false, false, true, true, true, false, false] rfl rfl (any_of HT_.out (by kernel_rfl)) (fun _ _ _ h => h) (Or.inl ⟨by rfl, ?_⟩) ?_ ?_
              rotate_left
              · intro w'
                go_simp
                with_reducible rfl
              rotate_left
              · simp only [Act.put, List.setIfInBounds_toArray, List.set_cons_zero, List.set_cons_succ, i64_w, i32_w]
                rfl
              refine one_ (i := 4) (N := some 28) #[true, true, true, true, true, false, false, true, true, true, false, false] rfl rfl (one_of HT_.out (by kernel_rfl)) (by decide) (fun K hK => ?_)
              refine Kd.R_lit_step Kd.string _ 9 ?hg (N := 28) ?hd (xs := ([(⟨#[32]⟩ : ByteArray), (⟨#[48]⟩ : ByteArray), (⟨#[10]⟩ : ByteArray), (⟨#[120]⟩ : ByteArray), (⟨#[108, 100, 105, 32, 50, 53, 54, 10]⟩ : ByteArray), (⟨#[98, 121, 116, 101, 32, 55, 10]⟩ : ByteArray), (⟨#[97, 116, 32, 50, 53, 53, 10, 108, 100, 97, 32, 53, 49, 51, 10]⟩ : ByteArray), (⟨#[110, 111, 112, 32, 49, 10]⟩ : ByteArray), (⟨#[106, 109, 112, 32, 54, 53, 53, 51, 54, 10]⟩ : ByteArray)] : List ByteArray)) (inner := [.string (⟨#[32]⟩ : ByteArray), .string (⟨#[48]⟩ : ByteArray), .string (⟨#[10]⟩ : ByteArray), .string (⟨#[120]⟩ : ByteArray), .string (⟨#[108, 100, 105, 32, 50, 53, 54, 10]⟩ : ByteArray), .string (⟨#[98, 121, 116, 101, 32, 55, 10]⟩ : ByteArray), .string (⟨#[97, 116, 32, 50, 53, 53, 10, 108, 100, 97, 32, 53, 49, 51, 10]⟩ : ByteArray), .string (⟨#[110, 111, 112, 32, 49, 10]⟩ : ByteArray), .string (⟨#[106, 109, 112, 32, 54, 53, 53, 51, 54, 10]⟩ : ByteArray)]) (ok := fun _ => True) (okp := fun _ => True) ?hr ?hp (fun _ hk => hk) trivial (Below.refl _ _) (Nat.le_refl _) (by simp) ?_; (case hd => rfl); (case hg => rfl); (case hr => first | (go_simp; done) | (go_simp; rfl)); (case hp => exact (Reps.one (show Kd.M Kd.string _ _ _ (⟨#[32]⟩ : ByteArray) [.string (⟨#[32]⟩ : ByteArray)] from rfl) (Reps.one (show Kd.M Kd.string _ _ _ (⟨#[48]⟩ : ByteArray) [.string (⟨#[48]⟩ : ByteArray)] from rfl) (Reps.one (show Kd.M Kd.string _ _ _ (⟨#[10]⟩ : ByteArray) [.string (⟨#[10]⟩ : ByteArray)] from rfl) (Reps.one (show Kd.M Kd.string _ _ _ (⟨#[120]⟩ : ByteArray) [.string (⟨#[120]⟩ : ByteArray)] from rfl) (Reps.one (show Kd.M Kd.string _ _ _ (⟨#[108, 100, 105, 32, 50, 53, 54, 10]⟩ : ByteArray) [.string (⟨#[108, 100, 105, 32, 50, 53, 54, 10]⟩ : ByteArray)] from rfl) (Reps.one (show Kd.M Kd.string _ _ _ (⟨#[98, 121, 116, 101, 32, 55, 10]⟩ : ByteArray) [.string (⟨#[98, 121, 116, 101, 32, 55, 10]⟩ : ByteArray)] from rfl) (Reps.one (show Kd.M Kd.string _ _ _ (⟨#[97, 116, 32, 50, 53, 53, 10, 108, 100, 97, 32, 53, 49, 51, 10]⟩ : ByteArray) [.string (⟨#[97, 116, 32, 50, 53, 53, 10, 108, 100, 97, 32, 53, 49, 51, 10]⟩ : ByteArray)] from rfl) (Reps.one (show Kd.M Kd.string _ _ _ (⟨#[110, 111, 112, 32, 49, 10]⟩ : ByteArray) [.string (⟨#[110, 111, 112, 32, 49, 10]⟩ : ByteArray)] from rfl) (Reps.one (show Kd.M Kd.string _ _ _ (⟨#[106, 109, 112, 32, 54, 53, 53, 51, 54, 10]⟩ : ByteArray) [.string (⟨#[106, 109, 112, 32, 54, 53, 53, 51, 54, 10]⟩ : ByteArray)] from rfl) (Reps.none _ _)))))))))))
              intro v311 w26 ho27 hb hg_ hnew_
              clear hg_ hnew_
              (first | rw [← Ny310.out] at ho27 | (simp only [Int.reduceToNat] at ho27; rw [← Ny310.out] at ho27))
              have n0_ := Aside0.mk (Kd.R_lower ho27 (below_size (by repeat (first | (with_reducible first | exact HB.out | apply below_alloc | apply pw_below_drewN | apply below_drew1 | refine below_set ?_ (IsS75.ge HI300.out)) | exact HB.out))))
              have n1_ := Aside0.mk (IsS75.below (by repeat (first | (with_reducible first | exact HI300.out | apply IsS75.alloc | apply IsS75.drewN | apply IsS75.drew | apply IsS75.set_1 | apply IsS75.set_2) | exact HI300.out)) hb)
              have n2_ := Aside0.mk (below_step (by repeat (first | (with_reducible first | exact HB.out | apply below_alloc | apply pw_below_drewN | apply below_drew1 | refine below_set ?_ (IsS75.ge HI300.out)) | exact HB.out)) hb)
              clear HI300
              clear HB
              have HO312 := n0_
              have HI300 := n1_
              have HB := n2_
              clear n0_ n1_ n2_
              clear hb ho27
              obtain ⟨Ao28, co28, eo28⟩ := Kd.R_slice HO312.out
              (first | subst eo28 | (injection eo28 with f1_ f2_ f3_; have f4_ := f1_.symm; have f5_ := f3_.symm; clear f1_ f2_ f3_; subst f4_; subst f5_))
              refine hK.out _ _ trivial (fun hHeld => ?_)
              clear hK K
              refine norm_ (a' := ?_) ?_ ?_
              rotate_left
              · show Act.put _ (some 28) _ = _
                simp only [Act.put, List.setIfInBounds_toArray, List.set_cons_zero, List.set_cons_succ, i64_w, i32_w]
                rfl
              refine one_ (i := 5) (N := some 29) #[true, true, true, true, true, true, false, true, true, true, false, false] rfl rfl (one_of HT_.out (by kernel_rfl)) (by decide) (fun K hK => ?_)
              refine goes_ Tryd.func48 (by kernel_rfl) rfl #[.pointer (some ⟨g300, 0, none⟩), .slice Ao28 y310.length co28] (by rfl) rfl rfl (by (try simp only [List.map_toArray, List.map_cons, List.map_nil]); first | done | rfl | (simp only [List.length_drop, List.length_take]; rfl)) ?_
              with_reducible refine (spec_l1Pick.calls g300 t297 t308 t309 _ _ y310 t313 t314 t315 w _ ?side1 ?side2 ?side3 ?side4 ?side5 A16.out).mono ?_
              (case side1 => repeat (first | (with_reducible first | exact HI300.out | apply IsS75.alloc | apply IsS75.drewN | apply IsS75.drew | apply IsS75.set_1 | apply IsS75.set_2) | exact HI300.out))
              (case side2 => repeat (first | (with_reducible first | exact HB.out | apply below_alloc | apply pw_below_drewN | apply below_drew1 | refine below_set ?_ (IsS75.ge HI300.out)) | exact HB.out))
              (case side3 => repeat (first | exact (Kd.R_reads' HO312.out).2.2 | (with_reducible refine Kd.C_alloc ?_ _) | (with_reducible refine Kd.C_drewN ?_ _) | (with_reducible refine Kd.C_drew ?_)))
              (case side4 => exact (Kd.R_reads' HO312.out).2.1)
              (case side5 => exact far_slice (IsS75.own_ne HI300.out HO312.out (by decide)))
              rintro e w29 ⟨rfl, hi, hb, hk⟩
              refine ⟨_, rfl, ?_⟩
              have n0_ := Aside0.mk (Kd.R_mono (Kd.R_keep (IsS75.apart (show IsS75 w _ g300 t297 t308 t309 from by repeat (first | (with_reducible first | exact HI300.out | apply IsS75.alloc | apply IsS75.drewN | apply IsS75.drew | apply IsS75.set_1 | apply IsS75.set_2) | exact HI300.out)) (by (with_reducible repeat (first | apply Kd.R_alloc | apply Kd.R_drewN | apply Kd.R_drew)); exact HO312.out) (by decide)) hk (fun _ h => h.2)) (fun _ h => h.1))
              have n1_ := Aside0.mk (hb)
              have n2_ := Aside0.mk (hi)
              clear HO312
              clear HB
              clear HI300
              have HO312 := n0_
              have HB := n1_
              have HI300 := n2_
              clear n0_ n1_ n2_
              (try clear hb)
              (try clear hb2)
              (try clear hk)
              (try clear hi)
              refine hK.out _ _ trivial (fun hHeld => ?_)
              clear hK K
              refine norm_ (a' := ?_) ?_ ?_
              rotate_left
              · show Act.put _ (some 29) _ = _
                simp only [Act.put, List.setIfInBounds_toArray, List.set_cons_zero, List.set_cons_succ, i64_w, i32_w]
                rfl
              refine pure_ (i := 6) (N := some 30) (v := ?_) (a' := ?_) #[true, true, true, true, true, true, true, true, true, true, false, false] rfl rfl (any_of HT_.out (by kernel_rfl)) (fun _ _ _ h => h) (Or.inl ⟨by rfl, ?_⟩) ?_ ?_
              rotate_left
              · intro w'
                go_simp
                with_reducible rfl
              rotate_left
              · simp only [Act.put, List.setIfInBounds_toArray, List.set_cons_zero, List.set_cons_succ, i64_w, i32_w]
                rfl
              refine pure_ (i := 10) (N := some 34) (v := ?_) (a' := ?_) #[true, true, true, true, true, true, true, true, true, true, true, false] rfl rfl (any_of HT_.out (by kernel_rfl)) (fun _ _ _ h => h) (Or.inl ⟨by rfl, ?_⟩) ?_ ?_
              rotate_left
              · intro w'
                go_simp
                with_reducible rfl
              rotate_left
              · simp only [Act.put, List.setIfInBounds_toArray, List.set_cons_zero, List.set_cons_succ, i64_w, i32_w]
                rfl
              refine pure_ (i := 11) (N := some 4) (v := ?_) (a' := ?_) #[true, true, true, true, true, true, true, true, true, true, true, true] rfl rfl (any_of HT_.out (by kernel_rfl)) (fun _ _ _ h => h) (Or.inl ⟨by rfl, ?_⟩) ?_ ?_
              rotate_left
              · intro w'
                go_simp
                with_reducible rfl
              rotate_left
              · simp only [Act.put, List.setIfInBounds_toArray, List.set_cons_zero, List.set_cons_succ, i64_w, i32_w]
                rfl
              refine done_ (done_of HT_.out (by kernel_rfl)) ?_
              try go_wp2
              go_ret
              exact ⟨by first | rfl | (simp [errW_none, errW_some] <;> rfl) | (simp [*, errW_none, errW_some] <;> rfl), by repeat (first | (with_reducible first | exact HB.out | apply below_alloc | apply pw_below_drewN | apply below_drew1 | refine below_set ?_ (IsS75.ge HI300.out)) | exact HB.out)⟩
            · rw [if_neg c20] at H
              exact absurd H (by simp)
          · rw [if_neg c17] at H
            exact absurd H (by simp)
        · rw [if_neg c15] at H
          exact absurd H (by simp)
      · rw [if_neg c14] at H
        exact absurd H (by simp)
    · rw [if_neg c13] at H
      have c13b0 : (t307 == 1) = false := beq_eq_false_iff_ne.mpr c13
      have c13b1 : (t307 != 1) = true := bne_iff_ne.mpr c13
      by_cases c30 : t307 = 2
      · rw [if_pos c30] at H
        have c30b0 : (t307 == 2) = true := beq_iff_eq.mpr c30
        have c30b1 : (t307 != 2) = false := bne_eq_false_iff_eq.mpr c30
        clear c30
        replace H := Option.bind_eq_some_iff.mp H
        obtain ⟨⟨t316, t317, t318⟩, A310, H⟩ := H
        replace H : (if t316 = true then (spec_DrawAssemble.l0 k t301 t297 t317 t318) else (some t301)) = some r := H
        have A31 := Aside0.mk A310
        clear A310
        by_cases c32 : t316 = true
        · subst c32
          have H1 : (spec_DrawAssemble.l0 k t301 t297 t317 t318) = some r := by rw [if_pos rfl] at H; exact H
          clear H
          have H := H1
          clear H1
          have H' := Aside0.mk H
          clear H
          go_enter Tryd.func20, Tryd.ntmps20
          go_wp2_with (first | ((with_reducible refine gate_callee (f := 30) rfl ?_); refine goesL_ (some 7) rfl rfl Tryd.func30 (by kernel_rfl) rfl #[.slice A0 l0.length c0] rfl (by (try simp only [List.map_toArray, List.map_cons, List.map_nil]); first | done | rfl | (simp only [List.length_drop, List.length_take]; rfl)) ?_; (with_reducible refine (spec_l1New.calls k _ _ l0 t297 t298 t299 w _ ?side1 ?side2 ?side3 A2.out).mono ?_); (case side1 => repeat (first | (with_reducible first | exact HB.out | apply below_alloc | apply pw_below_drewN | apply below_drew1) | exact HB.out)); (case side2 => exact HR0.out); (case side3 => exact HC0.out); rintro e w33 ⟨g300, rfl, hi, hb, hb2⟩; refine ⟨_, rfl, ?_⟩; have n0_ := Aside0.mk (hb); have n1_ := Aside0.mk (hi); clear HB; have HB := n0_; have HI300 := n1_; clear n0_ n1_; (try clear hb); (try clear hb2); (try clear hk); (try clear hi)) | ((with_reducible refine gate_callee (f := 46) rfl ?_); refine goesL_ (some 9) rfl rfl Tryd.func46 (by kernel_rfl) rfl #[.pointer (some ⟨g300, 0, none⟩)] rfl (by (try simp only [List.map_toArray, List.map_cons, List.map_nil]); first | done | rfl | (simp only [List.length_drop, List.length_take]; rfl)) ?_; (with_reducible refine (spec_l2Main.calls g300 t297 t298 t299 t301 t302 t303 w _ ?side1 ?side2 A3.out).mono ?_); (case side1 => repeat (first | (with_reducible first | exact HI300.out | apply IsS75.alloc | apply IsS75.drewN | apply IsS75.drew | apply IsS75.set_1 | apply IsS75.set_2) | exact HI300.out)); (case side2 => repeat (first | (with_reducible first | exact HB.out | apply below_alloc | apply pw_below_drewN | apply below_drew1 | refine below_set ?_ (IsS75.ge HI300.out)) | exact HB.out)); rintro e w34 ⟨rfl, hi, hb, hk⟩; refine ⟨_, rfl, ?_⟩; have n0_ := Aside0.mk (hb); have n1_ := Aside0.mk (hi); clear HB; clear HI300; have HB := n0_; have HI300 := n1_; clear n0_ n1_; (try clear hb); (try clear hb2); (try clear hk); (try clear hi)) | ((with_reducible refine gate_callee (f := 47) rfl ?_); refine goesL_ (some 14) rfl rfl Tryd.func47 (by kernel_rfl) rfl #[.pointer (some ⟨g300, 0, none⟩), .int .i64 (wrap64 ((t301.size : Int) + 1))] rfl (by (try simp only [List.map_toArray, List.map_cons, List.map_nil]); first | done | rfl | (simp only [List.length_drop, List.length_take]; rfl)) ?_; (with_reducible refine (spec_l1Below.calls g300 t297 t302 t303 (wrap64 ((t301.size : Int) + 1)) t304 t305 t306 w _ ?side1 ?side2 A4.out).mono ?_); (case side1 => repeat (first | (with_reducible first | exact HI300.out | apply IsS75.alloc | apply IsS75.drewN | apply IsS75.drew | apply IsS75.set_1 | apply IsS75.set_2) | exact HI300.out)); (case side2 => repeat (first | (with_reducible first | exact HB.out | apply below_alloc | apply pw_below_drewN | apply below_drew1 | refine below_set ?_ (IsS75.ge HI300.out)) | exact HB.out)); rintro e w35 ⟨rfl, hi, hb, hk⟩; refine ⟨_, rfl, ?_⟩; have n0_ := Aside0.mk (hb); have n1_ := Aside0.mk (hi); clear HB; clear HI300; have HB := n0_; have HI300 := n1_; clear n0_ n1_; (try clear hb); (try clear hb2); (try clear hk); (try clear hi)) | ((with_reducible refine gate_callee (f := 47) rfl ?_); refine goesL_ (some 16) rfl rfl Tryd.func47 (by kernel_rfl) rfl #[.pointer (some ⟨g300, 0, none⟩), .int .i64 6] rfl (by (try simp only [List.map_toArray, List.map_cons, List.map_nil]); first | done | rfl | (simp only [List.length_drop, List.length_take]; rfl)) ?_; (with_reducible refine (spec_l1Below.calls g300 t297 t305 t306 6 t307 t308 t309 w _ ?side1 ?side2 A5.out).mono ?_); (case side1 => repeat (first | (with_reducible first | exact HI300.out | apply IsS75.alloc | apply IsS75.drewN | apply IsS75.drew | apply IsS75.set_1 | apply IsS75.set_2) | exact HI300.out)); (case side2 => repeat (first | (with_reducible first | exact HB.out | apply below_alloc | apply pw_below_drewN | apply below_drew1 | refine below_set ?_ (IsS75.ge HI300.out)) | exact HB.out)); rintro e w36 ⟨rfl, hi, hb, hk⟩; refine ⟨_, rfl, ?_⟩; have n0_ := Aside0.mk (hb); have n1_ := Aside0.mk (hi); clear HB; clear HI300; have HB := n0_; have HI300 := n1_; clear n0_ n1_; (try clear hb); (try clear hb2); (try clear hk); (try clear hi)) | ((with_reducible refine gate_callee (f := 49) rfl ?_); refine goesL_ (some 38) rfl rfl Tryd.func49 (by kernel_rfl) rfl #[.pointer (some ⟨g300, 0, none⟩), .int .i64 9] rfl (by (try simp only [List.map_toArray, List.map_cons, List.map_nil]); first | done | rfl | (simp only [List.length_drop, List.length_take]; rfl)) ?_; (with_reducible refine (spec_l1Once.calls g300 t297 t308 t309 9 true t317 t318 w _ ?side1 ?side2 A31.out).mono ?_); (case side1 => repeat (first | (with_reducible first | exact HI300.out | apply IsS75.alloc | apply IsS75.drewN | apply IsS75.drew | apply IsS75.set_1 | apply IsS75.set_2) | exact HI300.out)); (case side2 => repeat (first | (with_reducible first | exact HB.out | apply below_alloc | apply pw_below_drewN | apply below_drew1 | refine below_set ?_ (IsS75.ge HI300.out)) | exact HB.out)); rintro e w37 ⟨rfl, hi, hb, hk⟩; refine ⟨_, rfl, ?_⟩; have n0_ := Aside0.mk (hb); have n1_ := Aside0.mk (hi); clear HB; clear HI300; have HB := n0_; have HI300 := n1_; clear n0_ n1_; (try clear hb); (try clear hb2); (try clear hk); (try clear hi)))
          (try simp only [Act.put, List.setIfInBounds_toArray, List.set_cons_zero, List.set_cons_succ])
          go_loopg [4] k (fun kq v4 w' => ∃ (x4_1 : ByteArray) (x301001_1 : Int) (x301002_1 : Int), v4 = .string x4_1 ∧ Aside0 (spec_DrawAssemble.l0 kq x4_1 t297 x301001_1 x301002_1 = some r) ∧ Aside0 (kq ≤ k) ∧ Aside0 (IsS75 w w' g300 t297 x301001_1 x301002_1) ∧ Aside0 (Below w.heap.size w w'))
          case atStart => exact ⟨(t301), (t317), (t318), (by first | rfl | (simp; done) | (simp [*]; done)), H', ⟨Nat.le_refl _⟩, ⟨by repeat (first | (with_reducible first | exact HI300.out | apply IsS75.alloc | apply IsS75.drewN | apply IsS75.drew | apply IsS75.set_1 | apply IsS75.set_2) | exact HI300.out)⟩, ⟨by repeat (first | (with_reducible first | exact HB.out | apply below_alloc | apply pw_below_drewN | apply below_drew1 | refine below_set ?_ (IsS75.ge HI300.out)) | exact HB.out)⟩⟩
          case round =>
            clear H'
            try clear c1
            try clear c2
            try clear p2
            try clear c3
            try clear c4
            try clear c6
            try clear c6b0
            try clear c6b1
            try clear p6
            try clear c7
            try clear c7b0
            try clear c7b1
            try clear c8
            try clear c8b0
            try clear c8b1
            try clear c13
            try clear c13b0
            try clear c13b1
            try clear c14
            try clear c14b0
            try clear c14b1
            try clear c15
            try clear c15b0
            try clear c15b1
            try clear c17
            try clear c17b0
            try clear c17b1
            try clear c17b2
            try clear c18
            try clear c18b0
            try clear c19
            try clear c19b0
            try clear c20
            try clear c20b0
            try clear c20b1
            try clear c20b2
            try clear c30
            try clear c30b0
            try clear c30b1
            try clear c32
            obtain ⟨x4_1, x301001_1, x301002_1, rfl, HA, HK1, HI300, HB⟩ := hrel
            cases gk with
            | zero => exact absurd HA.out (by simp [spec_DrawAssemble.l0])
            | succ k1 =>
              have H := HA.out
              clear HA
              simp only [spec_DrawAssemble.l0] at H
              replace H := Option.bind_eq_some_iff.mp H
              obtain ⟨⟨t319, t320, t321⟩, A380, H⟩ := H
              replace H : (if (x4_1.size : Int) < (wrap64 (3000 + t319)) then (if x4_1.size + 1 ≤ 9223372036854775807 then (spec_DrawAssemble.l0 k1 (x4_1 ++ (⟨#[10]⟩ : ByteArray)) t297 t320 t321) else (none)) else (some x4_1)) = some r := H
              have A38 := Aside0.mk A380
              clear A380
              by_cases c39 : (x4_1.size : Int) < (wrap64 (3000 + t319))
              · rw [if_pos c39] at H
                have c39b0 : decide ((x4_1.size : Int) < (wrap64 (3000 + t319))) = true := decide_eq_true c39
                clear c39
                by_cases c40 : x4_1.size + 1 ≤ 9223372036854775807
                · rw [if_pos c40] at H
                  have c40b0 := eq_true c40
                  have c40b1 : decide (x4_1.size + 1 ≤ 9223372036854775807) = true := decide_eq_true c40
                  try have c40b2 : (9223372036854775807 < x4_1.size + 1) = False := eq_false (Nat.not_lt.2 c40)
                  have H' := Aside0.mk H
                  clear H
                  go_wp2_with (first | ((with_reducible refine gate_callee (f := 47) rfl ?_); refine goesL_ (some 42) rfl rfl Tryd.func47 (by kernel_rfl) rfl #[.pointer (some ⟨g300, 0, none⟩), .int .i64 2] rfl (by (try simp only [List.map_toArray, List.map_cons, List.map_nil]); first | done | rfl | (simp only [List.length_drop, List.length_take]; rfl)) ?_; (with_reducible refine (spec_l1Below.calls g300 t297 x301001_1 x301002_1 2 t319 t320 t321 w _ ?side1 ?side2 A38.out).mono ?_); (case side1 => repeat (first | (with_reducible first | exact HI300.out | apply IsS75.alloc | apply IsS75.drewN | apply IsS75.drew | apply IsS75.set_1 | apply IsS75.set_2) | exact HI300.out)); (case side2 => repeat (first | (with_reducible first | exact HB.out | apply below_alloc | apply pw_below_drewN | apply below_drew1 | refine below_set ?_ (IsS75.ge HI300.out)) | exact HB.out)); rintro e w41 ⟨rfl, hi, hb, hk⟩; refine ⟨_, rfl, ?_⟩; have n0_ := Aside0.mk (hb); have n1_ := Aside0.mk (hi); clear HB; clear HI300; have HB := n0_; have HI300 := n1_; clear n0_ n1_; (try clear hb); (try clear hb2); (try clear hk); (try clear hi)))
                  go_roundg k1
                  case measure => have := HK1.out; omega
                  case rel => exact ⟨(x4_1 ++ (⟨#[10]⟩ : ByteArray)), (t320), (t321), (by first | rfl | (simp; done) | (simp [*]; done)), H', ⟨by have := HK1.out; omega⟩, ⟨by repeat (first | (with_reducible first | exact HI300.out | apply IsS75.alloc | apply IsS75.drewN | apply IsS75.drew | apply IsS75.set_1 | apply IsS75.set_2) | exact HI300.out)⟩, ⟨by repeat (first | (with_reducible first | exact HB.out | apply below_alloc | apply pw_below_drewN | apply below_drew1 | refine below_set ?_ (IsS75.ge HI300.out)) | exact HB.out)⟩⟩
                · rw [if_neg c40] at H
                  exact absurd H (by simp)
              · rw [if_neg c39] at H
                have c39b0 : decide ((x4_1.size : Int) < (wrap64 (3000 + t319))) = false := decide_eq_false c39
                clear c39
                obtain rfl := Option.some.inj H
                go_wp2_with (first | ((with_reducible refine gate_callee (f := 47) rfl ?_); refine goesL_ (some 42) rfl rfl Tryd.func47 (by kernel_rfl) rfl #[.pointer (some ⟨g300, 0, none⟩), .int .i64 2] rfl (by (try simp only [List.map_toArray, List.map_cons, List.map_nil]); first | done | rfl | (simp only [List.length_drop, List.length_take]; rfl)) ?_; (with_reducible refine (spec_l1Below.calls g300 t297 x301001_1 x301002_1 2 t319 t320 t321 w _ ?side1 ?side2 A38.out).mono ?_); (case side1 => repeat (first | (with_reducible first | exact HI300.out | apply IsS75.alloc | apply IsS75.drewN | apply IsS75.drew | apply IsS75.set_1 | apply IsS75.set_2) | exact HI300.out)); (case side2 => repeat (first | (with_reducible first | exact HB.out | apply below_alloc | apply pw_below_drewN | apply below_drew1 | refine below_set ?_ (IsS75.ge HI300.out)) | exact HB.out)); rintro e w42 ⟨rfl, hi, hb, hk⟩; refine ⟨_, rfl, ?_⟩; have n0_ := Aside0.mk (hb); have n1_ := Aside0.mk (hi); clear HB; clear HI300; have HB := n0_; have HI300 := n1_; clear n0_ n1_; (try clear hb); (try clear hb2); (try clear hk); (try clear hi)))
                go_ret
                exact ⟨by first | rfl | (simp [errW_none, errW_some] <;> rfl) | (simp [*, errW_none, errW_some] <;> rfl), by repeat (first | (with_reducible first | exact HB.out | apply below_alloc | apply pw_below_drewN | apply below_drew1 | refine below_set ?_ (IsS75.ge HI300.out)) | exact HB.out)⟩
        · replace c32 := Bool.eq_false_iff.mpr c32
          subst c32
          have H1 : (some t301) = some r := by rw [if_neg (show ¬ (false = true) by decide)] at H; exact H
          clear H
          have H := H1
          clear H1
          obtain rfl := Option.some.inj H
          go_enter Tryd.func20, Tryd.ntmps20
          go_wp2_with (first | ((with_reducible refine gate_callee (f := 30) rfl ?_); refine goesL_ (some 7) rfl rfl Tryd.func30 (by kernel_rfl) rfl #[.slice A0 l0.length c0] rfl (by (try simp only [List.map_toArray, List.map_cons, List.map_nil]); first | done | rfl | (simp only [List.length_drop, List.length_take]; rfl)) ?_; (with_reducible refine (spec_l1New.calls k _ _ l0 t297 t298 t299 w _ ?side1 ?side2 ?side3 A2.out).mono ?_); (case side1 => repeat (first | (with_reducible first | exact HB.out | apply below_alloc | apply pw_below_drewN | apply below_drew1) | exact HB.out)); (case side2 => exact HR0.out); (case side3 => exact HC0.out); rintro e w43 ⟨g300, rfl, hi, hb, hb2⟩; refine ⟨_, rfl, ?_⟩; have n0_ := Aside0.mk (hb); have n1_ := Aside0.mk (hi); clear HB; have HB := n0_; have HI300 := n1_; clear n0_ n1_; (try clear hb); (try clear hb2); (try clear hk); (try clear hi)) | ((with_reducible refine gate_callee (f := 46) rfl ?_); refine goesL_ (some 9) rfl rfl Tryd.func46 (by kernel_rfl) rfl #[.pointer (some ⟨g300, 0, none⟩)] rfl (by (try simp only [List.map_toArray, List.map_cons, List.map_nil]); first | done | rfl | (simp only [List.length_drop, List.length_take]; rfl)) ?_; (with_reducible refine (spec_l2Main.calls g300 t297 t298 t299 t301 t302 t303 w _ ?side1 ?side2 A3.out).mono ?_); (case side1 => repeat (first | (with_reducible first | exact HI300.out | apply IsS75.alloc | apply IsS75.drewN | apply IsS75.drew | apply IsS75.set_1 | apply IsS75.set_2) | exact HI300.out)); (case side2 => repeat (first | (with_reducible first | exact HB.out | apply below_alloc | apply pw_below_drewN | apply below_drew1 | refine below_set ?_ (IsS75.ge HI300.out)) | exact HB.out)); rintro e w44 ⟨rfl, hi, hb, hk⟩; refine ⟨_, rfl, ?_⟩; have n0_ := Aside0.mk (hb); have n1_ := Aside0.mk (hi); clear HB; clear HI300; have HB := n0_; have HI300 := n1_; clear n0_ n1_; (try clear hb); (try clear hb2); (try clear hk); (try clear hi)) | ((with_reducible refine gate_callee (f := 47) rfl ?_); refine goesL_ (some 14) rfl rfl Tryd.func47 (by kernel_rfl) rfl #[.pointer (some ⟨g300, 0, none⟩), .int .i64 (wrap64 ((t301.size : Int) + 1))] rfl (by (try simp only [List.map_toArray, List.map_cons, List.map_nil]); first | done | rfl | (simp only [List.length_drop, List.length_take]; rfl)) ?_; (with_reducible refine (spec_l1Below.calls g300 t297 t302 t303 (wrap64 ((t301.size : Int) + 1)) t304 t305 t306 w _ ?side1 ?side2 A4.out).mono ?_); (case side1 => repeat (first | (with_reducible first | exact HI300.out | apply IsS75.alloc | apply IsS75.drewN | apply IsS75.drew | apply IsS75.set_1 | apply IsS75.set_2) | exact HI300.out)); (case side2 => repeat (first | (with_reducible first | exact HB.out | apply below_alloc | apply pw_below_drewN | apply below_drew1 | refine below_set ?_ (IsS75.ge HI300.out)) | exact HB.out)); rintro e w45 ⟨rfl, hi, hb, hk⟩; refine ⟨_, rfl, ?_⟩; have n0_ := Aside0.mk (hb); have n1_ := Aside0.mk (hi); clear HB; clear HI300; have HB := n0_; have HI300 := n1_; clear n0_ n1_; (try clear hb); (try clear hb2); (try clear hk); (try clear hi)) | ((with_reducible refine gate_callee (f := 47) rfl ?_); refine goesL_ (some 16) rfl rfl Tryd.func47 (by kernel_rfl) rfl #[.pointer (some ⟨g300, 0, none⟩), .int .i64 6] rfl (by (try simp only [List.map_toArray, List.map_cons, List.map_nil]); first | done | rfl | (simp only [List.length_drop, List.length_take]; rfl)) ?_; (with_reducible refine (spec_l1Below.calls g300 t297 t305 t306 6 t307 t308 t309 w _ ?side1 ?side2 A5.out).mono ?_); (case side1 => repeat (first | (with_reducible first | exact HI300.out | apply IsS75.alloc | apply IsS75.drewN | apply IsS75.drew | apply IsS75.set_1 | apply IsS75.set_2) | exact HI300.out)); (case side2 => repeat (first | (with_reducible first | exact HB.out | apply below_alloc | apply pw_below_drewN | apply below_drew1 | refine below_set ?_ (IsS75.ge HI300.out)) | exact HB.out)); rintro e w46 ⟨rfl, hi, hb, hk⟩; refine ⟨_, rfl, ?_⟩; have n0_ := Aside0.mk (hb); have n1_ := Aside0.mk (hi); clear HB; clear HI300; have HB := n0_; have HI300 := n1_; clear n0_ n1_; (try clear hb); (try clear hb2); (try clear hk); (try clear hi)) | ((with_reducible refine gate_callee (f := 49) rfl ?_); refine goesL_ (some 38) rfl rfl Tryd.func49 (by kernel_rfl) rfl #[.pointer (some ⟨g300, 0, none⟩), .int .i64 9] rfl (by (try simp only [List.map_toArray, List.map_cons, List.map_nil]); first | done | rfl | (simp only [List.length_drop, List.length_take]; rfl)) ?_; (with_reducible refine (spec_l1Once.calls g300 t297 t308 t309 9 false t317 t318 w _ ?side1 ?side2 A31.out).mono ?_); (case side1 => repeat (first | (with_reducible first | exact HI300.out | apply IsS75.alloc | apply IsS75.drewN | apply IsS75.drew | apply IsS75.set_1 | apply IsS75.set_2) | exact HI300.out)); (case side2 => repeat (first | (with_reducible first | exact HB.out | apply below_alloc | apply pw_below_drewN | apply below_drew1 | refine below_set ?_ (IsS75.ge HI300.out)) | exact HB.out)); rintro e w47 ⟨rfl, hi, hb, hk⟩; refine ⟨_, rfl, ?_⟩; have n0_ := Aside0.mk (hb); have n1_ := Aside0.mk (hi); clear HB; clear HI300; have HB := n0_; have HI300 := n1_; clear n0_ n1_; (try clear hb); (try clear hb2); (try clear hk); (try clear hi)))
          go_ret
          exact ⟨by first | rfl | (simp [errW_none, errW_some] <;> rfl) | (simp [*, errW_none, errW_some] <;> rfl), by repeat (first | (with_reducible first | exact HB.out | apply below_alloc | apply pw_below_drewN | apply below_drew1 | refine below_set ?_ (IsS75.ge HI300.out)) | exact HB.out)⟩
      · rw [if_neg c30] at H
        have c30b0 : (t307 == 2) = false := beq_eq_false_iff_ne.mpr c30
        have c30b1 : (t307 != 2) = true := bne_iff_ne.mpr c30
        obtain rfl := Option.some.inj H
        go_enter Tryd.func20, Tryd.ntmps20
        go_wp2_with (first | ((with_reducible refine gate_callee (f := 30) rfl ?_); refine goesL_ (some 7) rfl rfl Tryd.func30 (by kernel_rfl) rfl #[.slice A0 l0.length c0] rfl (by (try simp only [List.map_toArray, List.map_cons, List.map_nil]); first | done | rfl | (simp only [List.length_drop, List.length_take]; rfl)) ?_; (with_reducible refine (spec_l1New.calls k _ _ l0 t297 t298 t299 w _ ?side1 ?side2 ?side3 A2.out).mono ?_); (case side1 => repeat (first | (with_reducible first | exact HB.out | apply below_alloc | apply pw_below_drewN | apply below_drew1) | exact HB.out)); (case side2 => exact HR0.out); (case side3 => exact HC0.out); rintro e w48 ⟨g300, rfl, hi, hb, hb2⟩; refine ⟨_, rfl, ?_⟩; have n0_ := Aside0.mk (hb); have n1_ := Aside0.mk (hi); clear HB; have HB := n0_; have HI300 := n1_; clear n0_ n1_; (try clear hb); (try clear hb2); (try clear hk); (try clear hi)) | ((with_reducible refine gate_callee (f := 46) rfl ?_); refine goesL_ (some 9) rfl rfl Tryd.func46 (by kernel_rfl) rfl #[.pointer (some ⟨g300, 0, none⟩)] rfl (by (try simp only [List.map_toArray, List.map_cons, List.map_nil]); first | done | rfl | (simp only [List.length_drop, List.length_take]; rfl)) ?_; (with_reducible refine (spec_l2Main.calls g300 t297 t298 t299 t301 t302 t303 w _ ?side1 ?side2 A3.out).mono ?_); (case side1 => repeat (first | (with_reducible first | exact HI300.out | apply IsS75.alloc | apply IsS75.drewN | apply IsS75.drew | apply IsS75.set_1 | apply IsS75.set_2) | exact HI300.out)); (case side2 => repeat (first | (with_reducible first | exact HB.out | apply below_alloc | apply pw_below_drewN | apply below_drew1 | refine below_set ?_ (IsS75.ge HI300.out)) | exact HB.out)); rintro e w49 ⟨rfl, hi, hb, hk⟩; refine ⟨_, rfl, ?_⟩; have n0_ := Aside0.mk (hb); have n1_ := Aside0.mk (hi); clear HB; clear HI300; have HB := n0_; have HI300 := n1_; clear n0_ n1_; (try clear hb); (try clear hb2); (try clear hk); (try clear hi)) | ((with_reducible refine gate_callee (f := 47) rfl ?_); refine goesL_ (some 14) rfl rfl Tryd.func47 (by kernel_rfl) rfl #[.pointer (some ⟨g300, 0, none⟩), .int .i64 (wrap64 ((t301.size : Int) + 1))] rfl (by (try simp only [List.map_toArray, List.map_cons, List.map_nil]); first | done | rfl | (simp only [List.length_drop, List.length_take]; rfl)) ?_; (with_reducible refine (spec_l1Below.calls g300 t297 t302 t303 (wrap64 ((t301.size : Int) + 1)) t304 t305 t306 w _ ?side1 ?side2 A4.out).mono ?_); (case side1 => repeat (first | (with_reducible first | exact HI300.out | apply IsS75.alloc | apply IsS75.drewN | apply IsS75.drew | apply IsS75.set_1 | apply IsS75.set_2) | exact HI300.out)); (case side2 => repeat (first | (with_reducible first | exact HB.out | apply below_alloc | apply pw_below_drewN | apply below_drew1 | refine below_set ?_ (IsS75.ge HI300.out)) | exact HB.out)); rintro e w50 ⟨rfl, hi, hb, hk⟩; refine ⟨_, rfl, ?_⟩; have n0_ := Aside0.mk (hb); have n1_ := Aside0.mk (hi); clear HB; clear HI300; have HB := n0_; have HI300 := n1_; clear n0_ n1_; (try clear hb); (try clear hb2); (try clear hk); (try clear hi)) | ((with_reducible refine gate_callee (f := 47) rfl ?_); refine goesL_ (some 16) rfl rfl Tryd.func47 (by kernel_rfl) rfl #[.pointer (some ⟨g300, 0, none⟩), .int .i64 6] rfl (by (try simp only [List.map_toArray, List.map_cons, List.map_nil]); first | done | rfl | (simp only [List.length_drop, List.length_take]; rfl)) ?_; (with_reducible refine (spec_l1Below.calls g300 t297 t305 t306 6 t307 t308 t309 w _ ?side1 ?side2 A5.out).mono ?_); (case side1 => repeat (first | (with_reducible first | exact HI300.out | apply IsS75.alloc | apply IsS75.drewN | apply IsS75.drew | apply IsS75.set_1 | apply IsS75.set_2) | exact HI300.out)); (case side2 => repeat (first | (with_reducible first | exact HB.out | apply below_alloc | apply pw_below_drewN | apply below_drew1 | refine below_set ?_ (IsS75.ge HI300.out)) | exact HB.out)); rintro e w51 ⟨rfl, hi, hb, hk⟩; refine ⟨_, rfl, ?_⟩; have n0_ := Aside0.mk (hb); have n1_ := Aside0.mk (hi); clear HB; clear HI300; have HB := n0_; have HI300 := n1_; clear n0_ n1_; (try clear hb); (try clear hb2); (try clear hk); (try clear hi)))
        go_ret
        exact ⟨by first | rfl | (simp [errW_none, errW_some] <;> rfl) | (simp [*, errW_none, errW_some] <;> rfl), by repeat (first | (with_reducible first | exact HB.out | apply below_alloc | apply pw_below_drewN | apply below_drew1 | refine below_set ?_ (IsS75.ge HI300.out)) | exact HB.out)⟩

/-! ### laws_sameInts: function 21 -/
def laws_sameInts.l0 : Nat → List Int → List Int → Int → Option (Bool)
  | 0, _, _, _ => none
  | k + 1, x0, x1, x5 => if x5 < (x0.length : Int) then (if 0 ≤ x5 then (if x5 < (x1.length : Int) then (if (rd x0 x5) = (rd x1 x5) then (laws_sameInts.l0 k x0 x1 (wrap64 (x5 + 1))) else (some false)) else (none)) else (none)) else (some true)
def laws_sameInts.f (k : Nat) (l0 : List Int) (l1 : List Int) : Option (Bool) := if (l0.length : Int) = (l1.length : Int) then (laws_sameInts.l0 k l0 l1 0) else (some false)
set_option maxHeartbeats 8000000 in
set_option maxRecDepth 100000 in
theorem laws_sameInts.calls (k : Nat) (A0 : Option Addr) (c0 : Nat) (l0 : List Int) (A1 : Option Addr) (c1 : Nat) (l1 : List Int) (r : Bool) (w : World) (hr0 : Kd.C (Kd.int .i64) w A0 l0.length l0) (hc0 : l0.length ≤ c0) (hr1 : Kd.C (Kd.int .i64) w A1 l1.length l1) (hc1 : l1.length ≤ c1) (h : laws_sameInts.f k l0 l1 = some r) :
    Calls Tryd.prog 21 #[.slice A0 l0.length c0, .slice A1 l1.length c1] w fun e w' => e = .returned (.bool r) ∧ Drawn0 w w' := by
  have HR0 := Aside0.mk hr0
  have HC0 := Aside0.mk hc0
  clear hr0 hc0
  have HR1 := Aside0.mk hr1
  have HC1 := Aside0.mk hc1
  clear hr1 hc1
  have H : (if (l0.length : Int) = (l1.length : Int) then (laws_sameInts.l0 k l0 l1 0) else (some false)) = some r := h
  clear h
  by_cases c3 : (l0.length : Int) = (l1.length : Int)
  · rw [if_pos c3] at H
    have c3b0 : ((l0.length : Int) == (l1.length : Int)) = true := beq_iff_eq.mpr c3
    have c3b1 : ((l0.length : Int) != (l1.length : Int)) = false := bne_eq_false_iff_eq.mpr c3
    have c3b2 : (l0.length == l1.length) = true := by first | simpa using c3 | (simp at c3 ⊢; omega)
    clear c3
    have H' := Aside0.mk H
    clear H
    go_enter Tryd.func21, Tryd.ntmps21
    go_wp2
    repeat (go_quiet (fail); try go_wp2)
    go_loopg [5] k (fun kq v5 w' => ∃ (x5_1 : Int), v5 = .int .i64 x5_1 ∧ Aside0 (laws_sameInts.l0 kq l0 l1 x5_1 = some r) ∧ Aside0 (kq ≤ k) ∧ Drawn0 w w')
    case atStart => exact ⟨(0), (by first | rfl | (simp; done) | (simp [*]; done)), H', ⟨Nat.le_refl _⟩, by repeat (first | exact Drawn0.refl _ | apply Drawn0.step)⟩
    case round =>
      clear H'
      try clear c1
      try clear c2
      try clear p2
      try clear c3
      try clear c3b0
      try clear c3b1
      try clear c3b2
      obtain ⟨x5_1, rfl, HA, HK1, ⟨m1, rfl⟩⟩ := hrel
      cases gk with
      | zero => exact absurd HA.out (by simp [laws_sameInts.l0])
      | succ k1 =>
        have H := HA.out
        clear HA
        simp only [laws_sameInts.l0] at H
        by_cases c4 : x5_1 < (l0.length : Int)
        · rw [if_pos c4] at H
          have c4b0 : decide (x5_1 < (l0.length : Int)) = true := decide_eq_true c4
          clear c4
          by_cases c5 : 0 ≤ x5_1
          · rw [if_pos c5] at H
            have c5b0 : decide (0 ≤ x5_1) = true := decide_eq_true c5
            clear c5
            by_cases c6 : x5_1 < (l1.length : Int)
            · rw [if_pos c6] at H
              have c6b0 : decide (x5_1 < (l1.length : Int)) = true := decide_eq_true c6
              clear c6
              by_cases c7 : (rd l0 x5_1) = (rd l1 x5_1)
              · rw [if_pos c7] at H
                have c7b0 : ((rd l0 x5_1) == (rd l1 x5_1)) = true := beq_iff_eq.mpr c7
                have c7b1 : ((rd l0 x5_1) != (rd l1 x5_1)) = false := bne_eq_false_iff_eq.mpr c7
                clear c7
                have H' := Aside0.mk H
                clear H
                have p322 : 0 ≤ (x5_1 : Int) := of_decide_eq_true (by first | (with_reducible assumption) | assumption)
                have q322 : x5_1 < (l0.length : Int) := of_decide_eq_true (by first | (with_reducible assumption) | assumption)
                obtain ⟨ad322, e322, hx322_0⟩ := Kd.at_int HR0.out x5_1 p322 q322
                cases e322
                replace p322 := eq_true p322
                replace q322 := eq_true q322
                have p323 : 0 ≤ (x5_1 : Int) := of_decide_eq_true (by first | (with_reducible assumption) | assumption)
                have q323 : x5_1 < (l1.length : Int) := of_decide_eq_true (by first | (with_reducible assumption) | assumption)
                obtain ⟨ad323, e323, hx323_0⟩ := Kd.at_int HR1.out x5_1 p323 q323
                cases e323
                replace p323 := eq_true p323
                replace q323 := eq_true q323
                go_wp2
                repeat (go_quiet (fail); try go_wp2)
                go_roundg k1
                case measure => have := HK1.out; omega
                case rel => exact ⟨(wrap64 (x5_1 + 1)), (by first | rfl | (simp; done) | (simp [*]; done)), H', ⟨by have := HK1.out; omega⟩, by repeat (first | exact Drawn0.refl _ | apply Drawn0.step)⟩
              · rw [if_neg c7] at H
                have c7b0 : ((rd l0 x5_1) == (rd l1 x5_1)) = false := beq_eq_false_iff_ne.mpr c7
                have c7b1 : ((rd l0 x5_1) != (rd l1 x5_1)) = true := bne_iff_ne.mpr c7
                obtain rfl := Option.some.inj H
                have p322 : 0 ≤ (x5_1 : Int) := of_decide_eq_true (by first | (with_reducible assumption) | assumption)
                have q322 : x5_1 < (l0.length : Int) := of_decide_eq_true (by first | (with_reducible assumption) | assumption)
                obtain ⟨ad322, e322, hx322_0⟩ := Kd.at_int HR0.out x5_1 p322 q322
                cases e322
                replace p322 := eq_true p322
                replace q322 := eq_true q322
                have p323 : 0 ≤ (x5_1 : Int) := of_decide_eq_true (by first | (with_reducible assumption) | assumption)
                have q323 : x5_1 < (l1.length : Int) := of_decide_eq_true (by first | (with_reducible assumption) | assumption)
                obtain ⟨ad323, e323, hx323_0⟩ := Kd.at_int HR1.out x5_1 p323 q323
                cases e323
                replace p323 := eq_true p323
                replace q323 := eq_true q323
                go_wp2
                repeat (go_quiet (fail); try go_wp2)
                go_ret
                exact ⟨by first | rfl | (simp; done) | (simp [*]; done), by repeat (first | exact Drawn0.refl _ | apply Drawn0.step)⟩
            · rw [if_neg c6] at H
              exact absurd H (by simp)
          · rw [if_neg c5] at H
            exact absurd H (by simp)
        · rw [if_neg c4] at H
          have c4b0 : decide (x5_1 < (l0.length : Int)) = false := decide_eq_false c4
          clear c4
          obtain rfl := Option.some.inj H
          go_wp2
          repeat (go_quiet (fail); try go_wp2)
          go_ret
          exact ⟨by first | rfl | (simp; done) | (simp [*]; done), by repeat (first | exact Drawn0.refl _ | apply Drawn0.step)⟩
  · rw [if_neg c3] at H
    have c3b0 : ((l0.length : Int) == (l1.length : Int)) = false := beq_eq_false_iff_ne.mpr c3
    have c3b1 : ((l0.length : Int) != (l1.length : Int)) = true := bne_iff_ne.mpr c3
    have c3b2 : (l0.length == l1.length) = false := by first | simpa using c3 | (simp at c3 ⊢; omega)
    obtain rfl := Option.some.inj H
    go_enter Tryd.func21, Tryd.ntmps21
    go_wp2
    repeat (go_quiet (fail); try go_wp2)
    go_ret
    exact ⟨by first | rfl | (simp; done) | (simp [*]; done), by repeat (first | exact Drawn0.refl _ | apply Drawn0.step)⟩

/-! ### laws_FnAssembled: function 5 -/
def laws_FnAssembled.j0 : Nat → ByteArray → List Int → Int → Bool → Option (Bool)
  | 0, _, _, _, _ => none
  | k + 1, x3, x4, x5, x32 => if x32 = true then (some false) else (if x5 = 0 then (if x3.size + 2 ≤ 9223372036854775807 then ((impl_Assemble.f k (x3 ++ (⟨#[10, 10]⟩ : ByteArray))).bind fun bt335 => (if (x4.length : Int) = 256 then (if bt335.2 = (-1) then (some true) else (if bt335.2 = 0 then ((laws_sameInts.f k x4 bt335.1).bind fun t339 => (some t339)) else (some false))) else (some false))) else (none)) else (some ((x4.length : Int) == 0)))
def laws_FnAssembled.f (k : Nat) (l0 : List Int) : Option (Bool) := (laws_big.f l0).bind fun t324 => (if t324 = true then (some true) else ((spec_DrawAssemble.f k l0).bind fun t325 => ((impl_Assemble.f k t325).bind fun bt326 => ((spec_Assemble.f k t325).bind fun bt330 => (if bt326.2 = bt330.2 then ((laws_sameInts.f k bt326.1 bt330.1).bind fun t334 => (laws_FnAssembled.j0 k t325 bt326.1 bt326.2 (!t334))) else (laws_FnAssembled.j0 k t325 bt326.1 bt326.2 true))))))
set_option maxHeartbeats 8000000 in
set_option maxRecDepth 100000 in
theorem laws_FnAssembled.calls (k : Nat) (A0 : Option Addr) (c0 : Nat) (l0 : List Int) (r : Bool) (w : World) (hr0 : Kd.C (Kd.int .u8) w A0 l0.length l0) (hc0 : l0.length ≤ c0) (h : laws_FnAssembled.f k l0 = some r) (hrt : r = true) (hT : Tabs w) :
    Calls Tryd.prog 5 #[.slice A0 l0.length c0] w fun e w' => e = .returned (.bool r) ∧ Below w.heap.size w w' := by
  have HT := Aside0.mk hT
  clear hT
  have HR0 := Aside0.mk hr0
  have HC0 := Aside0.mk hc0
  clear hr0 hc0
  have HB := Aside0.mk (Below.refl w.heap.size w)
  have H : ((laws_big.f l0).bind fun t324 => (if t324 = true then (some true) else ((spec_DrawAssemble.f k l0).bind fun t325 => ((impl_Assemble.f k t325).bind fun bt326 => ((spec_Assemble.f k t325).bind fun bt330 => (if bt326.2 = bt330.2 then ((laws_sameInts.f k bt326.1 bt330.1).bind fun t334 => (laws_FnAssembled.j0 k t325 bt326.1 bt326.2 (!t334))) else (laws_FnAssembled.j0 k t325 bt326.1 bt326.2 true))))))) = some r := h
  clear h
  replace H := Option.bind_eq_some_iff.mp H
  obtain ⟨t324, A20, H⟩ := H
  replace H : (if t324 = true then (some true) else ((spec_DrawAssemble.f k l0).bind fun t325 => ((impl_Assemble.f k t325).bind fun bt326 => ((spec_Assemble.f k t325).bind fun bt330 => (if bt326.2 = bt330.2 then ((laws_sameInts.f k bt326.1 bt330.1).bind fun t334 => (laws_FnAssembled.j0 k t325 bt326.1 bt326.2 (!t334))) else (laws_FnAssembled.j0 k t325 bt326.1 bt326.2 true)))))) = some r := H
  have A2 := Aside0.mk A20
  clear A20
  by_cases c3 : t324 = true
  · subst c3
    have H1 : (some true) = some r := by rw [if_pos rfl] at H; exact H
    clear H
    have H := H1
    clear H1
    obtain rfl := Option.some.inj H
    go_enter Tryd.func5, Tryd.ntmps5
    go_wp2_with (first | ((with_reducible refine gate_callee (f := 13) rfl ?_); refine goesL_ (some 11) rfl rfl Tryd.func13 (by kernel_rfl) rfl #[.slice A0 l0.length c0] rfl (by (try simp only [List.map_toArray, List.map_cons, List.map_nil]); first | done | rfl | (simp only [List.length_drop, List.length_take]; rfl)) ?_; (with_reducible refine (laws_big.calls _ _ l0 true _ ?side1 ?side2 A2.out).mono ?_); (case side1 => repeat (first | exact HR0.out | (with_reducible refine Kd.C_alloc ?_ _) | (with_reducible refine Kd.C_drewN ?_ _) | (with_reducible refine Kd.C_drew ?_))); (case side2 => exact HC0.out); rintro e w' ⟨rfl, ⟨nd, rfl⟩⟩; refine ⟨_, rfl, ?_⟩))
    go_ret
    exact ⟨by first | rfl | (simp [errW_none, errW_some] <;> rfl) | (simp [*, errW_none, errW_some] <;> rfl), by repeat (first | (with_reducible first | exact HB.out | apply below_alloc | apply pw_below_drewN | apply below_drew1) | exact HB.out)⟩
  · replace c3 := Bool.eq_false_iff.mpr c3
    subst c3
    have H1 : ((spec_DrawAssemble.f k l0).bind fun t325 => ((impl_Assemble.f k t325).bind fun bt326 => ((spec_Assemble.f k t325).bind fun bt330 => (if bt326.2 = bt330.2 then ((laws_sameInts.f k bt326.1 bt330.1).bind fun t334 => (laws_FnAssembled.j0 k t325 bt326.1 bt326.2 (!t334))) else (laws_FnAssembled.j0 k t325 bt326.1 bt326.2 true))))) = some r := by rw [if_neg (show ¬ (false = true) by decide)] at H; exact H
    clear H
    have H := H1
    clear H1
    replace H := Option.bind_eq_some_iff.mp H
    obtain ⟨t325, A40, H⟩ := H
    replace H : ((impl_Assemble.f k t325).bind fun bt326 => ((spec_Assemble.f k t325).bind fun bt330 => (if bt326.2 = bt330.2 then ((laws_sameInts.f k bt326.1 bt330.1).bind fun t334 => (laws_FnAssembled.j0 k t325 bt326.1 bt326.2 (!t334))) else (laws_FnAssembled.j0 k t325 bt326.1 bt326.2 true)))) = some r := H
    have A4 := Aside0.mk A40
    clear A40
    replace H := Option.bind_eq_some_iff.mp H
    obtain ⟨⟨t326, t327⟩, A50, H⟩ := H
    replace H : ((spec_Assemble.f k t325).bind fun bt330 => (if t327 = bt330.2 then ((laws_sameInts.f k t326 bt330.1).bind fun t334 => (laws_FnAssembled.j0 k t325 t326 t327 (!t334))) else (laws_FnAssembled.j0 k t325 t326 t327 true))) = some r := H
    have A5 := Aside0.mk A50
    clear A50
    replace H := Option.bind_eq_some_iff.mp H
    obtain ⟨⟨t330, t331⟩, A60, H⟩ := H
    replace H : (if t327 = t331 then ((laws_sameInts.f k t326 t330).bind fun t334 => (laws_FnAssembled.j0 k t325 t326 t327 (!t334))) else (laws_FnAssembled.j0 k t325 t326 t327 true)) = some r := H
    have A6 := Aside0.mk A60
    clear A60
    have HC7 := Aside0.mk H
    clear H
    go_enter Tryd.func5, Tryd.ntmps5
    go_upto_region 6 with (first | ((with_reducible refine gate_callee (f := 13) rfl ?_); refine goesL_ (some 11) rfl rfl Tryd.func13 (by kernel_rfl) rfl #[.slice A0 l0.length c0] rfl (by (try simp only [List.map_toArray, List.map_cons, List.map_nil]); first | done | rfl | (simp only [List.length_drop, List.length_take]; rfl)) ?_; (with_reducible refine (laws_big.calls _ _ l0 false _ ?side1 ?side2 A2.out).mono ?_); (case side1 => repeat (first | exact HR0.out | (with_reducible refine Kd.C_alloc ?_ _) | (with_reducible refine Kd.C_drewN ?_ _) | (with_reducible refine Kd.C_drew ?_))); (case side2 => exact HC0.out); rintro e w' ⟨rfl, ⟨nd, rfl⟩⟩; refine ⟨_, rfl, ?_⟩) | ((with_reducible refine gate_callee (f := 20) rfl ?_); refine goesL_ (some 13) rfl rfl Tryd.func20 (by kernel_rfl) rfl #[.slice A0 l0.length c0] rfl (by (try simp only [List.map_toArray, List.map_cons, List.map_nil]); first | done | rfl | (simp only [List.length_drop, List.length_take]; rfl)) ?_; (with_reducible refine (spec_DrawAssemble.calls k _ _ l0 t325 _ ?side1 ?side2 A4.out).mono ?_); (case side1 => repeat (first | exact HR0.out | (with_reducible refine Kd.C_alloc ?_ _) | (with_reducible refine Kd.C_drewN ?_ _) | (with_reducible refine Kd.C_drew ?_))); (case side2 => exact HC0.out); rintro e w8 ⟨rfl, hb⟩; refine ⟨_, rfl, ?_⟩; have n0_ := Aside0.mk (below_step (by repeat (first | (with_reducible first | exact HB.out | apply below_alloc | apply pw_below_drewN | apply below_drew1) | exact HB.out)) hb); clear HB; have HB := n0_; clear n0_; (try clear hb); (try clear hb2); (try clear hk); (try clear hi)) | ((with_reducible refine gate_callee (f := 9) rfl ?_); refine goesL_ (some 16) rfl rfl Tryd.func9 (by kernel_rfl) rfl #[.string t325] rfl (by (try simp only [List.map_toArray, List.map_cons, List.map_nil]); first | done | rfl | (simp only [List.length_drop, List.length_take]; rfl)) ?_; (with_reducible refine (impl_Assemble.calls k t325 t326 t327 _ A5.out ?tab).mono ?_); (case tab => exact HT.out.on (by repeat (first | (with_reducible first | exact HB.out | apply below_alloc | apply pw_below_drewN | apply below_drew1) | exact HB.out))); rintro e w9 ⟨v328, rfl, ho0, hb⟩; refine ⟨_, rfl, ?_⟩; have n0_ := Aside0.mk (Kd.R_lower ho0 (below_size (by repeat (first | (with_reducible first | exact HB.out | apply below_alloc | apply pw_below_drewN | apply below_drew1) | exact HB.out)))); have n1_ := Aside0.mk (below_step (by repeat (first | (with_reducible first | exact HB.out | apply below_alloc | apply pw_below_drewN | apply below_drew1) | exact HB.out)) hb); clear HB; have HO329 := n0_; have HB := n1_; clear n0_ n1_; (try clear hb); (try clear hb2); (try clear hk); (try clear hi); (try clear ho0)) | ((with_reducible refine gate_callee (f := 8) rfl ?_); refine goesL_ (some 21) rfl rfl Tryd.func8 (by kernel_rfl) rfl #[.string t325] rfl (by (try simp only [List.map_toArray, List.map_cons, List.map_nil]); first | done | rfl | (simp only [List.length_drop, List.length_take]; rfl)) ?_; (with_reducible refine (spec_Assemble.calls k t325 t330 t331 _ A6.out).mono ?_); rintro e w10 ⟨v332, rfl, ho0, hb⟩; refine ⟨_, rfl, ?_⟩; have n0_ := Aside0.mk (Kd.R_elder' (by (with_reducible repeat (first | apply Kd.R_alloc | apply Kd.R_drewN | apply Kd.R_drew)); exact HO329.out) (Kd.R_base ho0) hb); have n1_ := Aside0.mk (Kd.R_lower (Kd.R_new' ho0 (Kd.R_lt (by (with_reducible repeat (first | apply Kd.R_alloc | apply Kd.R_drewN | apply Kd.R_drew)); exact HO329.out))) (below_size (by repeat (first | (with_reducible first | exact HB.out | apply below_alloc | apply pw_below_drewN | apply below_drew1) | exact HB.out)))); have n2_ := Aside0.mk (below_step (by repeat (first | (with_reducible first | exact HB.out | apply below_alloc | apply pw_below_drewN | apply below_drew1) | exact HB.out)) hb); clear HO329; clear HB; have HO329 := n0_; have HO333 := n1_; have HB := n2_; clear n0_ n1_ n2_; (try clear hb); (try clear hb2); (try clear hk); (try clear hi); (try clear ho0)))
    (try simp only [Act.put, List.setIfInBounds_toArray, List.set_cons_zero, List.set_cons_succ])
    go_cut [32] (fun v32 wc => ∃ (kq : Nat) (x32_6 : Bool), v32 = .bool x32_6 ∧ Aside0 (laws_FnAssembled.j0 kq t325 t326 t327 x32_6 = some r) ∧ Aside0 (kq ≤ k) ∧ Aside0 (Kd.R (Kd.int .i64) 3 wc w.heap.size (fun _ => True) v328 t326) ∧ Aside0 (Below w.heap.size w wc))
    case first =>
      have H := HC7.out
      clear HC7
      by_cases c11 : t327 = t331
      · rw [if_pos c11] at H
        have c11b0 : (t327 == t331) = true := beq_iff_eq.mpr c11
        have c11b1 : (t327 != t331) = false := bne_eq_false_iff_eq.mpr c11
        clear c11
        (first | rw [c11b0] | (simp only [i64_w, i32_w]; rw [c11b0]) | skip)
        replace H := Option.bind_eq_some_iff.mp H
        obtain ⟨t334, A120, H⟩ := H
        replace H : (laws_FnAssembled.j0 k t325 t326 t327 (!t334)) = some r := H
        have A12 := Aside0.mk A120
        clear A120
        have H' := Aside0.mk H
        clear H
        obtain ⟨Ao13, co13, eo13⟩ := Kd.R_slice HO329.out
        subst eo13
        obtain ⟨Ao14, co14, eo14⟩ := Kd.R_slice HO333.out
        subst eo14
        go_wp2_with (first | (go_at_call 21; (with_reducible refine (laws_sameInts.calls k _ _ t326 _ _ t330 t334 _ ?side1 ?side2 ?side3 ?side4 A12.out).mono ?_); (case side1 => repeat (first | exact (Kd.R_reads' HO329.out).2.2 | (with_reducible refine Kd.C_alloc ?_ _) | (with_reducible refine Kd.C_drewN ?_ _) | (with_reducible refine Kd.C_drew ?_))); (case side2 => exact (Kd.R_reads' HO329.out).2.1); (case side3 => repeat (first | exact (Kd.R_reads' HO333.out).2.2 | (with_reducible refine Kd.C_alloc ?_ _) | (with_reducible refine Kd.C_drewN ?_ _) | (with_reducible refine Kd.C_drew ?_))); (case side4 => exact (Kd.R_reads' HO333.out).2.1); rintro e w' ⟨rfl, ⟨nd, rfl⟩⟩))
        go_meet
        case rel => exact ⟨_, (!t334), (by first | rfl | (simp; done) | (simp [*]; done)), H', ⟨by first | omega | exact Nat.le_refl _⟩, ⟨by (with_reducible repeat (first | apply Kd.R_alloc | apply Kd.R_drewN | apply Kd.R_drew)); exact Kd.R_mono HO329.out (fun _ hk => trivial)⟩, ⟨by repeat (first | (with_reducible first | exact HB.out | apply below_alloc | apply pw_below_drewN | apply below_drew1) | exact HB.out)⟩⟩
      · rw [if_neg c11] at H
        have c11b0 : (t327 == t331) = false := beq_eq_false_iff_ne.mpr c11
        have c11b1 : (t327 != t331) = true := bne_iff_ne.mpr c11
        (first | rw [c11b0] | (simp only [i64_w, i32_w]; rw [c11b0]) | skip)
        exact absurd (show r = false by first | (cases k with | zero => (simp [laws_FnAssembled.j0] at H; done) | succ k_ => (simp [laws_FnAssembled.j0] at H; (first | exact H | exact H.symm))) | (cases kj6 with | zero => (simp [laws_FnAssembled.j0] at H; done) | succ k_ => (simp [laws_FnAssembled.j0] at H; (first | exact H | exact H.symm)))) (by rw [hrt]; decide)
    case rest =>
      clear HC7
      try clear c1
      try clear c2
      try clear p2
      try clear c3
      try clear c5
      try clear c8
      try clear c9
      try clear c11
      try clear c11b0
      try clear c11b1
      try clear c13
      obtain ⟨kq, x32_6, rfl, HA, HJ6, HO_4, HB⟩ := hcut
      cases kq with
      | zero => exact absurd HA.out (by simp [laws_FnAssembled.j0])
      | succ kj6 =>
        have H := HA.out
        clear HA
        simp only [laws_FnAssembled.j0] at H
        by_cases c15 : x32_6 = true
        · subst c15
          have H1 : (some false) = some r := by rw [if_pos rfl] at H; exact H
          clear H
          have H := H1
          clear H1
          exact absurd ((Option.some.inj H).trans hrt) (by decide)
        · replace c15 := Bool.eq_false_iff.mpr c15
          subst c15
          have H1 : (if t327 = 0 then (if t325.size + 2 ≤ 9223372036854775807 then ((impl_Assemble.f kj6 (t325 ++ (⟨#[10, 10]⟩ : ByteArray))).bind fun bt335 => (if (t326.length : Int) = 256 then (if bt335.2 = (-1) then (some true) else (if bt335.2 = 0 then ((laws_sameInts.f kj6 t326 bt335.1).bind fun t339 => (some t339)) else (some false))) else (some false))) else (none)) else (some ((t326.length : Int) == 0))) = some r := by rw [if_neg (show ¬ (false = true) by decide)] at H; exact H
          clear H
          have H := H1
          clear H1
          by_cases c16 : t327 = 0
          · rw [if_pos c16] at H
            have c16b0 : (t327 == 0) = true := beq_iff_eq.mpr c16
            have c16b1 : (t327 != 0) = false := bne_eq_false_iff_eq.mpr c16
            clear c16
            by_cases c17 : t325.size + 2 ≤ 9223372036854775807
            · rw [if_pos c17] at H
              have c17b0 := eq_true c17
              have c17b1 : decide (t325.size + 2 ≤ 9223372036854775807) = true := decide_eq_true c17
              try have c17b2 : (9223372036854775807 < t325.size + 2) = False := eq_false (Nat.not_lt.2 c17)
              replace H := Option.bind_eq_some_iff.mp H
              obtain ⟨⟨t335, t336⟩, A180, H⟩ := H
              replace H : (if (t326.length : Int) = 256 then (if t336 = (-1) then (some true) else (if t336 = 0 then ((laws_sameInts.f kj6 t326 t335).bind fun t339 => (some t339)) else (some false))) else (some false)) = some r := H
              have A18 := Aside0.mk A180
              clear A180
              by_cases c19 : (t326.length : Int) = 256
              · rw [if_pos c19] at H
                have c19b0 : ((t326.length : Int) == 256) = true := beq_iff_eq.mpr c19
                have c19b1 : ((t326.length : Int) != 256) = false := bne_eq_false_iff_eq.mpr c19
                clear c19
                by_cases c20 : t336 = (-1)
                · rw [if_pos c20] at H
                  have c20b0 : (t336 == (-1)) = true := beq_iff_eq.mpr c20
                  have c20b1 : (t336 != (-1)) = false := bne_eq_false_iff_eq.mpr c20
                  clear c20
                  obtain rfl := Option.some.inj H
                  go_wp2_with (first | ((with_reducible refine gate_callee (f := 9) rfl ?_); refine goesL_ (some 41) rfl rfl Tryd.func9 (by kernel_rfl) rfl #[.string (t325 ++ (⟨#[10, 10]⟩ : ByteArray))] rfl (by (try simp only [List.map_toArray, List.map_cons, List.map_nil]); first | done | rfl | (simp only [List.length_drop, List.length_take]; rfl)) ?_; (with_reducible refine (impl_Assemble.calls kj6 (t325 ++ (⟨#[10, 10]⟩ : ByteArray)) t335 t336 _ A18.out ?tab).mono ?_); (case tab => exact HT.out.on (by repeat (first | (with_reducible first | exact HB.out | apply below_alloc | apply pw_below_drewN | apply below_drew1) | exact HB.out))); rintro e w21 ⟨v337, rfl, ho0, hb⟩; refine ⟨_, rfl, ?_⟩; have n0_ := Aside0.mk (Kd.R_elder' (by (with_reducible repeat (first | apply Kd.R_alloc | apply Kd.R_drewN | apply Kd.R_drew)); exact HO_4.out) (Kd.R_base ho0) hb); have n1_ := Aside0.mk (Kd.R_lower (Kd.R_new' ho0 (Kd.R_lt (by (with_reducible repeat (first | apply Kd.R_alloc | apply Kd.R_drewN | apply Kd.R_drew)); exact HO_4.out))) (below_size (by repeat (first | (with_reducible first | exact HB.out | apply below_alloc | apply pw_below_drewN | apply below_drew1) | exact HB.out)))); have n2_ := Aside0.mk (below_step (by repeat (first | (with_reducible first | exact HB.out | apply below_alloc | apply pw_below_drewN | apply below_drew1) | exact HB.out)) hb); clear HO_4; clear HB; have HO_4 := n0_; have HO338 := n1_; have HB := n2_; clear n0_ n1_ n2_; (try clear hb); (try clear hb2); (try clear hk); (try clear hi); (try clear ho0); obtain ⟨Ao22, co22, eo22⟩ := Kd.R_slice HO_4.out; subst eo22))
                  go_ret
                  exact ⟨by first | rfl | (simp [errW_none, errW_some] <;> rfl) | (simp [*, errW_none, errW_some] <;> rfl), by repeat (first | (with_reducible first | exact HB.out | apply below_alloc | apply pw_below_drewN | apply below_drew1) | exact HB.out)⟩
                · rw [if_neg c20] at H
                  have c20b0 : (t336 == (-1)) = false := beq_eq_false_iff_ne.mpr c20
                  have c20b1 : (t336 != (-1)) = true := bne_iff_ne.mpr c20
                  by_cases c23 : t336 = 0
                  · rw [if_pos c23] at H
                    have c23b0 : (t336 == 0) = true := beq_iff_eq.mpr c23
                    have c23b1 : (t336 != 0) = false := bne_eq_false_iff_eq.mpr c23
                    clear c23
                    replace H := Option.bind_eq_some_iff.mp H
                    obtain ⟨t339, A240, H⟩ := H
                    replace H : (some t339) = some r := H
                    have A24 := Aside0.mk A240
                    clear A240
                    clear hrt
                    obtain rfl := Option.some.inj H
                    go_wp2_with (first | ((with_reducible refine gate_callee (f := 9) rfl ?_); refine goesL_ (some 41) rfl rfl Tryd.func9 (by kernel_rfl) rfl #[.string (t325 ++ (⟨#[10, 10]⟩ : ByteArray))] rfl (by (try simp only [List.map_toArray, List.map_cons, List.map_nil]); first | done | rfl | (simp only [List.length_drop, List.length_take]; rfl)) ?_; (with_reducible refine (impl_Assemble.calls kj6 (t325 ++ (⟨#[10, 10]⟩ : ByteArray)) t335 t336 _ A18.out ?tab).mono ?_); (case tab => exact HT.out.on (by repeat (first | (with_reducible first | exact HB.out | apply below_alloc | apply pw_below_drewN | apply below_drew1) | exact HB.out))); rintro e w25 ⟨v337, rfl, ho0, hb⟩; refine ⟨_, rfl, ?_⟩; have n0_ := Aside0.mk (Kd.R_elder' (by (with_reducible repeat (first | apply Kd.R_alloc | apply Kd.R_drewN | apply Kd.R_drew)); exact HO_4.out) (Kd.R_base ho0) hb); have n1_ := Aside0.mk (Kd.R_lower (Kd.R_new' ho0 (Kd.R_lt (by (with_reducible repeat (first | apply Kd.R_alloc | apply Kd.R_drewN | apply Kd.R_drew)); exact HO_4.out))) (below_size (by repeat (first | (with_reducible first | exact HB.out | apply below_alloc | apply pw_below_drewN | apply below_drew1) | exact HB.out)))); have n2_ := Aside0.mk (below_step (by repeat (first | (with_reducible first | exact HB.out | apply below_alloc | apply pw_below_drewN | apply below_drew1) | exact HB.out)) hb); clear HO_4; clear HB; have HO_4 := n0_; have HO338 := n1_; have HB := n2_; clear n0_ n1_ n2_; (try clear hb); (try clear hb2); (try clear hk); (try clear hi); (try clear ho0); obtain ⟨Ao26, co26, eo26⟩ := Kd.R_slice HO_4.out; subst eo26; obtain ⟨Ao27, co27, eo27⟩ := Kd.R_slice HO338.out; subst eo27) | (go_at_call 21; (with_reducible refine (laws_sameInts.calls kj6 _ _ t326 _ _ t335 t339 _ ?side1 ?side2 ?side3 ?side4 A24.out).mono ?_); (case side1 => repeat (first | exact (Kd.R_reads' HO_4.out).2.2 | (with_reducible refine Kd.C_alloc ?_ _) | (with_reducible refine Kd.C_drewN ?_ _) | (with_reducible refine Kd.C_drew ?_))); (case side2 => exact (Kd.R_reads' HO_4.out).2.1); (case side3 => repeat (first | exact (Kd.R_reads' HO338.out).2.2 | (with_reducible refine Kd.C_alloc ?_ _) | (with_reducible refine Kd.C_drewN ?_ _) | (with_reducible refine Kd.C_drew ?_))); (case side4 => exact (Kd.R_reads' HO338.out).2.1); rintro e w' ⟨rfl, ⟨nd, rfl⟩⟩))
                    go_ret
                    exact ⟨by first | rfl | (simp [errW_none, errW_some] <;> rfl) | (simp [*, errW_none, errW_some] <;> rfl), by repeat (first | (with_reducible first | exact HB.out | apply below_alloc | apply pw_below_drewN | apply below_drew1) | exact HB.out)⟩
                  · rw [if_neg c23] at H
                    have c23b0 : (t336 == 0) = false := beq_eq_false_iff_ne.mpr c23
                    have c23b1 : (t336 != 0) = true := bne_iff_ne.mpr c23
                    exact absurd ((Option.some.inj H).trans hrt) (by decide)
              · rw [if_neg c19] at H
                have c19b0 : ((t326.length : Int) == 256) = false := beq_eq_false_iff_ne.mpr c19
                have c19b1 : ((t326.length : Int) != 256) = true := bne_iff_ne.mpr c19
                exact absurd ((Option.some.inj H).trans hrt) (by decide)
            · rw [if_neg c17] at H
              exact absurd H (by simp)
          · rw [if_neg c16] at H
            have c16b0 : (t327 == 0) = false := beq_eq_false_iff_ne.mpr c16
            have c16b1 : (t327 != 0) = true := bne_iff_ne.mpr c16
            clear hrt
            obtain rfl := Option.some.inj H
            obtain ⟨Ao32, co32, eo32⟩ := Kd.R_slice HO_4.out
            subst eo32
            go_wp2
            go_ret
            exact ⟨by first | rfl | (simp [errW_none, errW_some] <;> rfl) | (simp [*, errW_none, errW_some] <;> rfl), by repeat (first | (with_reducible first | exact HB.out | apply below_alloc | apply pw_below_drewN | apply below_drew1) | exact HB.out)⟩

end Go.Proofs.YtbggkcnglmiheaaDoor.MFnAssembled
