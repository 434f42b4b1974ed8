/- Walks of functions that the law FnListed reaches: each comes to just what its Lean function says. (Begun as the texts that print.sh wrote for this claim; some of them, and those that it does not write, are mine.) No condition. -/
import Derived.Test.YtbggkcnglmiheaaDoorMFnListedx2
namespace Go.Proofs.YtbggkcnglmiheaaDoor.MFnListed
open Go.RowKit Go.Proofs.YtbggkcnglmiheaaDoorW.PrintWords Go.Proofs.YtbggkcnglmiheaaDoorW.PrintLast Go.Proofs.YtbggkcnglmiheaaDoorW.PrintMore
attribute [local go_sem] max2_int min2_int max_two min_two max_three min_three max_four min_four   -- for this text's walks alone
set_option linter.unusedVariables false
set_option linter.unusedSimpArgs false

/-! ### impl_LineOf: function 17 -/
def impl_LineOf.f (k : Nat) (l0 : List Int) (a1 : Int) : Option (ByteArray × Int) := (impl_within.f a1 0 (wrap64 ((l0.length : Int) - 1))).bind fun t310 => (if t310 = true then ((impl_byteAt.f l0 a1).bind fun t311 => ((impl_isOp.f t311).bind fun t312 => (if t312 = true then ((impl_OpLen.f k t311).bind fun t314 => (if t314 = 1 then ((impl_OpName.f t311).bind fun t315 => (some (t315, 1))) else (if t314 = 2 then ((impl_OpName.f t311).bind fun t316 => (if t316.size + 1 ≤ 9223372036854775807 then ((impl_byteAt.f l0 (wrap64 (a1 + 1))).bind fun t317 => ((impl_digits.f k t317).bind fun t318 => (if (t316 ++ (⟨#[32]⟩ : ByteArray)).size + t318.size ≤ 9223372036854775807 then (some ((t316 ++ (⟨#[32]⟩ : ByteArray)) ++ t318, 2)) else (none)))) else (none))) else ((impl_OpName.f t311).bind fun t319 => (if t319.size + 1 ≤ 9223372036854775807 then ((impl_byteAt.f l0 (wrap64 (a1 + 1))).bind fun t320 => ((impl_byteAt.f l0 (wrap64 (a1 + 2))).bind fun t321 => ((impl_Join.f t320 t321).bind fun t322 => ((impl_digits.f k t322).bind fun t323 => (if (t319 ++ (⟨#[32]⟩ : ByteArray)).size + t323.size ≤ 9223372036854775807 then (some ((t319 ++ (⟨#[32]⟩ : ByteArray)) ++ t323, 3)) else (none)))))) else (none)))))) else ((impl_digits.f k t311).bind fun t313 => (if 5 + t313.size ≤ 9223372036854775807 then (some ((⟨#[98, 121, 116, 101, 32]⟩ : ByteArray) ++ t313, 1)) else (none)))))) else (some ((⟨#[]⟩ : ByteArray), 0)))
set_option maxHeartbeats 8000000 in
set_option maxRecDepth 100000 in
theorem impl_LineOf.calls (k : Nat) (A0 : Option Addr) (c0 : Nat) (l0 : List Int) (a1 : Int) (r1 : ByteArray) (r2 : Int) (w : World) (hr0 : Kd.C (Kd.int .i64) w A0 l0.length l0) (hc0 : l0.length ≤ c0) (h : impl_LineOf.f k l0 a1 = some (r1, r2)) (hT : Tabs w) :
    Calls Tryd.prog 17 #[.slice A0 l0.length c0, .int .i64 a1] w fun e w' => e = .returned (.tuple #[.string r1, .int .i64 r2]) ∧ Below w.heap.size w w' := by
  have HT := Aside0.mk hT
  clear hT
  have HR0 := Aside0.mk hr0
  have HC0 := Aside0.mk hc0
  clear hr0 hc0
  have HB := Aside0.mk (Below.refl w.heap.size w)
  have H : ((impl_within.f a1 0 (wrap64 ((l0.length : Int) - 1))).bind fun t310 => (if t310 = true then ((impl_byteAt.f l0 a1).bind fun t311 => ((impl_isOp.f t311).bind fun t312 => (if t312 = true then ((impl_OpLen.f k t311).bind fun t314 => (if t314 = 1 then ((impl_OpName.f t311).bind fun t315 => (some (t315, 1))) else (if t314 = 2 then ((impl_OpName.f t311).bind fun t316 => (if t316.size + 1 ≤ 9223372036854775807 then ((impl_byteAt.f l0 (wrap64 (a1 + 1))).bind fun t317 => ((impl_digits.f k t317).bind fun t318 => (if (t316 ++ (⟨#[32]⟩ : ByteArray)).size + t318.size ≤ 9223372036854775807 then (some ((t316 ++ (⟨#[32]⟩ : ByteArray)) ++ t318, 2)) else (none)))) else (none))) else ((impl_OpName.f t311).bind fun t319 => (if t319.size + 1 ≤ 9223372036854775807 then ((impl_byteAt.f l0 (wrap64 (a1 + 1))).bind fun t320 => ((impl_byteAt.f l0 (wrap64 (a1 + 2))).bind fun t321 => ((impl_Join.f t320 t321).bind fun t322 => ((impl_digits.f k t322).bind fun t323 => (if (t319 ++ (⟨#[32]⟩ : ByteArray)).size + t323.size ≤ 9223372036854775807 then (some ((t319 ++ (⟨#[32]⟩ : ByteArray)) ++ t323, 3)) else (none)))))) else (none)))))) else ((impl_digits.f k t311).bind fun t313 => (if 5 + t313.size ≤ 9223372036854775807 then (some ((⟨#[98, 121, 116, 101, 32]⟩ : ByteArray) ++ t313, 1)) else (none)))))) else (some ((⟨#[]⟩ : ByteArray), 0)))) = some (r1, r2) := h
  clear h
  replace H := Option.bind_eq_some_iff.mp H
  obtain ⟨t310, A30, H⟩ := H
  replace H : (if t310 = true then ((impl_byteAt.f l0 a1).bind fun t311 => ((impl_isOp.f t311).bind fun t312 => (if t312 = true then ((impl_OpLen.f k t311).bind fun t314 => (if t314 = 1 then ((impl_OpName.f t311).bind fun t315 => (some (t315, 1))) else (if t314 = 2 then ((impl_OpName.f t311).bind fun t316 => (if t316.size + 1 ≤ 9223372036854775807 then ((impl_byteAt.f l0 (wrap64 (a1 + 1))).bind fun t317 => ((impl_digits.f k t317).bind fun t318 => (if (t316 ++ (⟨#[32]⟩ : ByteArray)).size + t318.size ≤ 9223372036854775807 then (some ((t316 ++ (⟨#[32]⟩ : ByteArray)) ++ t318, 2)) else (none)))) else (none))) else ((impl_OpName.f t311).bind fun t319 => (if t319.size + 1 ≤ 9223372036854775807 then ((impl_byteAt.f l0 (wrap64 (a1 + 1))).bind fun t320 => ((impl_byteAt.f l0 (wrap64 (a1 + 2))).bind fun t321 => ((impl_Join.f t320 t321).bind fun t322 => ((impl_digits.f k t322).bind fun t323 => (if (t319 ++ (⟨#[32]⟩ : ByteArray)).size + t323.size ≤ 9223372036854775807 then (some ((t319 ++ (⟨#[32]⟩ : ByteArray)) ++ t323, 3)) else (none)))))) else (none)))))) else ((impl_digits.f k t311).bind fun t313 => (if 5 + t313.size ≤ 9223372036854775807 then (some ((⟨#[98, 121, 116, 101, 32]⟩ : ByteArray) ++ t313, 1)) else (none)))))) else (some ((⟨#[]⟩ : ByteArray), 0))) = some (r1, r2) := H
  have A3 := Aside0.mk A30
  clear A30
  by_cases c4 : t310 = true
  · subst c4
    have H1 : ((impl_byteAt.f l0 a1).bind fun t311 => ((impl_isOp.f t311).bind fun t312 => (if t312 = true then ((impl_OpLen.f k t311).bind fun t314 => (if t314 = 1 then ((impl_OpName.f t311).bind fun t315 => (some (t315, 1))) else (if t314 = 2 then ((impl_OpName.f t311).bind fun t316 => (if t316.size + 1 ≤ 9223372036854775807 then ((impl_byteAt.f l0 (wrap64 (a1 + 1))).bind fun t317 => ((impl_digits.f k t317).bind fun t318 => (if (t316 ++ (⟨#[32]⟩ : ByteArray)).size + t318.size ≤ 9223372036854775807 then (some ((t316 ++ (⟨#[32]⟩ : ByteArray)) ++ t318, 2)) else (none)))) else (none))) else ((impl_OpName.f t311).bind fun t319 => (if t319.size + 1 ≤ 9223372036854775807 then ((impl_byteAt.f l0 (wrap64 (a1 + 1))).bind fun t320 => ((impl_byteAt.f l0 (wrap64 (a1 + 2))).bind fun t321 => ((impl_Join.f t320 t321).bind fun t322 => ((impl_digits.f k t322).bind fun t323 => (if (t319 ++ (⟨#[32]⟩ : ByteArray)).size + t323.size ≤ 9223372036854775807 then (some ((t319 ++ (⟨#[32]⟩ : ByteArray)) ++ t323, 3)) else (none)))))) else (none)))))) else ((impl_digits.f k t311).bind fun t313 => (if 5 + t313.size ≤ 9223372036854775807 then (some ((⟨#[98, 121, 116, 101, 32]⟩ : ByteArray) ++ t313, 1)) else (none)))))) = some (r1, r2) := by rw [if_pos rfl] at H; exact H
    clear H
    have H := H1
    clear H1
    replace H := Option.bind_eq_some_iff.mp H
    obtain ⟨t311, A50, H⟩ := H
    replace H : ((impl_isOp.f t311).bind fun t312 => (if t312 = true then ((impl_OpLen.f k t311).bind fun t314 => (if t314 = 1 then ((impl_OpName.f t311).bind fun t315 => (some (t315, 1))) else (if t314 = 2 then ((impl_OpName.f t311).bind fun t316 => (if t316.size + 1 ≤ 9223372036854775807 then ((impl_byteAt.f l0 (wrap64 (a1 + 1))).bind fun t317 => ((impl_digits.f k t317).bind fun t318 => (if (t316 ++ (⟨#[32]⟩ : ByteArray)).size + t318.size ≤ 9223372036854775807 then (some ((t316 ++ (⟨#[32]⟩ : ByteArray)) ++ t318, 2)) else (none)))) else (none))) else ((impl_OpName.f t311).bind fun t319 => (if t319.size + 1 ≤ 9223372036854775807 then ((impl_byteAt.f l0 (wrap64 (a1 + 1))).bind fun t320 => ((impl_byteAt.f l0 (wrap64 (a1 + 2))).bind fun t321 => ((impl_Join.f t320 t321).bind fun t322 => ((impl_digits.f k t322).bind fun t323 => (if (t319 ++ (⟨#[32]⟩ : ByteArray)).size + t323.size ≤ 9223372036854775807 then (some ((t319 ++ (⟨#[32]⟩ : ByteArray)) ++ t323, 3)) else (none)))))) else (none)))))) else ((impl_digits.f k t311).bind fun t313 => (if 5 + t313.size ≤ 9223372036854775807 then (some ((⟨#[98, 121, 116, 101, 32]⟩ : ByteArray) ++ t313, 1)) else (none))))) = some (r1, r2) := H
    have A5 := Aside0.mk A50
    clear A50
    replace H := Option.bind_eq_some_iff.mp H
    obtain ⟨t312, A60, H⟩ := H
    replace H : (if t312 = true then ((impl_OpLen.f k t311).bind fun t314 => (if t314 = 1 then ((impl_OpName.f t311).bind fun t315 => (some (t315, 1))) else (if t314 = 2 then ((impl_OpName.f t311).bind fun t316 => (if t316.size + 1 ≤ 9223372036854775807 then ((impl_byteAt.f l0 (wrap64 (a1 + 1))).bind fun t317 => ((impl_digits.f k t317).bind fun t318 => (if (t316 ++ (⟨#[32]⟩ : ByteArray)).size + t318.size ≤ 9223372036854775807 then (some ((t316 ++ (⟨#[32]⟩ : ByteArray)) ++ t318, 2)) else (none)))) else (none))) else ((impl_OpName.f t311).bind fun t319 => (if t319.size + 1 ≤ 9223372036854775807 then ((impl_byteAt.f l0 (wrap64 (a1 + 1))).bind fun t320 => ((impl_byteAt.f l0 (wrap64 (a1 + 2))).bind fun t321 => ((impl_Join.f t320 t321).bind fun t322 => ((impl_digits.f k t322).bind fun t323 => (if (t319 ++ (⟨#[32]⟩ : ByteArray)).size + t323.size ≤ 9223372036854775807 then (some ((t319 ++ (⟨#[32]⟩ : ByteArray)) ++ t323, 3)) else (none)))))) else (none)))))) else ((impl_digits.f k t311).bind fun t313 => (if 5 + t313.size ≤ 9223372036854775807 then (some ((⟨#[98, 121, 116, 101, 32]⟩ : ByteArray) ++ t313, 1)) else (none)))) = some (r1, r2) := H
    have A6 := Aside0.mk A60
    clear A60
    by_cases c7 : t312 = true
    · subst c7
      have H1 : ((impl_OpLen.f k t311).bind fun t314 => (if t314 = 1 then ((impl_OpName.f t311).bind fun t315 => (some (t315, 1))) else (if t314 = 2 then ((impl_OpName.f t311).bind fun t316 => (if t316.size + 1 ≤ 9223372036854775807 then ((impl_byteAt.f l0 (wrap64 (a1 + 1))).bind fun t317 => ((impl_digits.f k t317).bind fun t318 => (if (t316 ++ (⟨#[32]⟩ : ByteArray)).size + t318.size ≤ 9223372036854775807 then (some ((t316 ++ (⟨#[32]⟩ : ByteArray)) ++ t318, 2)) else (none)))) else (none))) else ((impl_OpName.f t311).bind fun t319 => (if t319.size + 1 ≤ 9223372036854775807 then ((impl_byteAt.f l0 (wrap64 (a1 + 1))).bind fun t320 => ((impl_byteAt.f l0 (wrap64 (a1 + 2))).bind fun t321 => ((impl_Join.f t320 t321).bind fun t322 => ((impl_digits.f k t322).bind fun t323 => (if (t319 ++ (⟨#[32]⟩ : ByteArray)).size + t323.size ≤ 9223372036854775807 then (some ((t319 ++ (⟨#[32]⟩ : ByteArray)) ++ t323, 3)) else (none)))))) else (none)))))) = some (r1, r2) := by rw [if_pos rfl] at H; exact H
      clear H
      have H := H1
      clear H1
      replace H := Option.bind_eq_some_iff.mp H
      obtain ⟨t314, A80, H⟩ := H
      replace H : (if t314 = 1 then ((impl_OpName.f t311).bind fun t315 => (some (t315, 1))) else (if t314 = 2 then ((impl_OpName.f t311).bind fun t316 => (if t316.size + 1 ≤ 9223372036854775807 then ((impl_byteAt.f l0 (wrap64 (a1 + 1))).bind fun t317 => ((impl_digits.f k t317).bind fun t318 => (if (t316 ++ (⟨#[32]⟩ : ByteArray)).size + t318.size ≤ 9223372036854775807 then (some ((t316 ++ (⟨#[32]⟩ : ByteArray)) ++ t318, 2)) else (none)))) else (none))) else ((impl_OpName.f t311).bind fun t319 => (if t319.size + 1 ≤ 9223372036854775807 then ((impl_byteAt.f l0 (wrap64 (a1 + 1))).bind fun t320 => ((impl_byteAt.f l0 (wrap64 (a1 + 2))).bind fun t321 => ((impl_Join.f t320 t321).bind fun t322 => ((impl_digits.f k t322).bind fun t323 => (if (t319 ++ (⟨#[32]⟩ : ByteArray)).size + t323.size ≤ 9223372036854775807 then (some ((t319 ++ (⟨#[32]⟩ : ByteArray)) ++ t323, 3)) else (none)))))) else (none))))) = some (r1, r2) := H
      have A8 := Aside0.mk A80
      clear A80
      by_cases c9 : t314 = 1
      · rw [if_pos c9] at H
        have c9b0 : (t314 == 1) = true := beq_iff_eq.mpr c9
        have c9b1 : (t314 != 1) = false := bne_eq_false_iff_eq.mpr c9
        clear c9
        replace H := Option.bind_eq_some_iff.mp H
        obtain ⟨t315, A100, H⟩ := H
        replace H : (some (t315, 1)) = some (r1, r2) := H
        have A10 := Aside0.mk A100
        clear A100
        simp only [Option.some.injEq, Prod.mk.injEq] at H
        obtain ⟨rfl, rfl⟩ := H
        go_enter Tryd.func17, Tryd.ntmps17
        go_wp2_with (first | ((with_reducible refine gate_callee (f := 33) rfl ?_); refine goesL_ (some 11) rfl rfl Tryd.func33 (by kernel_rfl) rfl #[.int .i64 a1, .int .i64 0, .int .i64 (wrap64 ((l0.length : Int) - 1))] rfl (by (try simp only [List.map_toArray, List.map_cons, List.map_nil]); first | done | rfl | (simp only [List.length_drop, List.length_take]; rfl)) ?_; (with_reducible refine (impl_within.calls a1 0 (wrap64 ((l0.length : Int) - 1)) true _ A3.out).mono ?_); rintro e w' ⟨rfl, ⟨nd, rfl⟩⟩; refine ⟨_, rfl, ?_⟩) | ((with_reducible refine gate_callee (f := 34) rfl ?_); refine goesL_ (some 15) rfl rfl Tryd.func34 (by kernel_rfl) rfl #[.slice A0 l0.length c0, .int .i64 a1] rfl (by (try simp only [List.map_toArray, List.map_cons, List.map_nil]); first | done | rfl | (simp only [List.length_drop, List.length_take]; rfl)) ?_; (with_reducible refine (impl_byteAt.calls _ _ l0 a1 t311 _ ?side1 ?side2 A5.out).mono ?_); (case side1 => repeat (first | exact HR0.out | (with_reducible refine Kd.C_alloc ?_ _) | (with_reducible refine Kd.C_drewN ?_ _) | (with_reducible refine Kd.C_drew ?_))); (case side2 => exact HC0.out); rintro e w' ⟨rfl, ⟨nd, rfl⟩⟩; refine ⟨_, rfl, ?_⟩) | ((with_reducible refine gate_callee (f := 35) rfl ?_); refine goesL_ (some 17) rfl rfl Tryd.func35 (by kernel_rfl) rfl #[.int .i64 t311] rfl (by (try simp only [List.map_toArray, List.map_cons, List.map_nil]); first | done | rfl | (simp only [List.length_drop, List.length_take]; rfl)) ?_; (with_reducible refine (impl_isOp.calls t311 true _ A6.out).mono ?_); rintro e w' ⟨rfl, ⟨nd, rfl⟩⟩; refine ⟨_, rfl, ?_⟩) | ((with_reducible refine gate_callee (f := 37) rfl ?_); refine goesL_ (some 23) rfl rfl Tryd.func37 (by kernel_rfl) rfl #[.int .i64 t311] rfl (by (try simp only [List.map_toArray, List.map_cons, List.map_nil]); first | done | rfl | (simp only [List.length_drop, List.length_take]; rfl)) ?_; (with_reducible refine (impl_OpLen.calls k t311 t314 _ A8.out).mono ?_); rintro e w' ⟨rfl, ⟨nd, rfl⟩⟩; refine ⟨_, rfl, ?_⟩) | ((with_reducible refine gate_callee (f := 38) rfl ?_); refine goesL_ (some 27) rfl rfl Tryd.func38 (by kernel_rfl) rfl #[.int .i64 t311] rfl (by (try simp only [List.map_toArray, List.map_cons, List.map_nil]); first | done | rfl | (simp only [List.length_drop, List.length_take]; rfl)) ?_; (with_reducible refine (impl_OpName.calls t311 t315 _ A10.out).mono ?_); rintro e w11 ⟨rfl, hb⟩; refine ⟨_, rfl, ?_⟩; have n0_ := Aside0.mk (below_step (by repeat (first | (with_reducible first | exact HB.out | apply below_alloc | apply pw_below_drewN | apply below_drew1) | exact HB.out)) hb); clear HB; have HB := n0_; clear n0_; (try clear hb); (try clear hb2); (try clear hk); (try clear hi)))
        go_ret2
        exact ⟨by first | rfl | (simp [errW_none, errW_some] <;> rfl) | (simp [*, errW_none, errW_some] <;> rfl), by repeat (first | (with_reducible first | exact HB.out | apply below_alloc | apply pw_below_drewN | apply below_drew1) | exact HB.out)⟩
      · rw [if_neg c9] at H
        have c9b0 : (t314 == 1) = false := beq_eq_false_iff_ne.mpr c9
        have c9b1 : (t314 != 1) = true := bne_iff_ne.mpr c9
        by_cases c12 : t314 = 2
        · rw [if_pos c12] at H
          have c12b0 : (t314 == 2) = true := beq_iff_eq.mpr c12
          have c12b1 : (t314 != 2) = false := bne_eq_false_iff_eq.mpr c12
          clear c12
          replace H := Option.bind_eq_some_iff.mp H
          obtain ⟨t316, A130, H⟩ := H
          replace H : (if t316.size + 1 ≤ 9223372036854775807 then ((impl_byteAt.f l0 (wrap64 (a1 + 1))).bind fun t317 => ((impl_digits.f k t317).bind fun t318 => (if (t316 ++ (⟨#[32]⟩ : ByteArray)).size + t318.size ≤ 9223372036854775807 then (some ((t316 ++ (⟨#[32]⟩ : ByteArray)) ++ t318, 2)) else (none)))) else (none)) = some (r1, r2) := H
          have A13 := Aside0.mk A130
          clear A130
          by_cases c14 : t316.size + 1 ≤ 9223372036854775807
          · rw [if_pos c14] at H
            have c14b0 := eq_true c14
            have c14b1 : decide (t316.size + 1 ≤ 9223372036854775807) = true := decide_eq_true c14
            try have c14b2 : (9223372036854775807 < t316.size + 1) = False := eq_false (Nat.not_lt.2 c14)
            replace H := Option.bind_eq_some_iff.mp H
            obtain ⟨t317, A150, H⟩ := H
            replace H : ((impl_digits.f k t317).bind fun t318 => (if (t316 ++ (⟨#[32]⟩ : ByteArray)).size + t318.size ≤ 9223372036854775807 then (some ((t316 ++ (⟨#[32]⟩ : ByteArray)) ++ t318, 2)) else (none))) = some (r1, r2) := H
            have A15 := Aside0.mk A150
            clear A150
            replace H := Option.bind_eq_some_iff.mp H
            obtain ⟨t318, A160, H⟩ := H
            replace H : (if (t316 ++ (⟨#[32]⟩ : ByteArray)).size + t318.size ≤ 9223372036854775807 then (some ((t316 ++ (⟨#[32]⟩ : ByteArray)) ++ t318, 2)) else (none)) = some (r1, r2) := H
            have A16 := Aside0.mk A160
            clear A160
            by_cases c17 : (t316 ++ (⟨#[32]⟩ : ByteArray)).size + t318.size ≤ 9223372036854775807
            · rw [if_pos c17] at H
              have c17b0 := eq_true c17
              have c17b1 : decide ((t316 ++ (⟨#[32]⟩ : ByteArray)).size + t318.size ≤ 9223372036854775807) = true := decide_eq_true c17
              try have c17b2 : (9223372036854775807 < (t316 ++ (⟨#[32]⟩ : ByteArray)).size + t318.size) = False := eq_false (Nat.not_lt.2 c17)
              have c17f : (9223372036854775807 < t316.size + 1 + t318.size) = False := eq_false (by have h_ := c17; rw [ByteArray.size_append] at h_; exact Nat.not_lt.2 h_)
              simp only [Option.some.injEq, Prod.mk.injEq] at H
              obtain ⟨rfl, rfl⟩ := H
              go_enter Tryd.func17, Tryd.ntmps17
              go_wp2_with (first | ((with_reducible refine gate_callee (f := 33) rfl ?_); refine goesL_ (some 11) rfl rfl Tryd.func33 (by kernel_rfl) rfl #[.int .i64 a1, .int .i64 0, .int .i64 (wrap64 ((l0.length : Int) - 1))] rfl (by (try simp only [List.map_toArray, List.map_cons, List.map_nil]); first | done | rfl | (simp only [List.length_drop, List.length_take]; rfl)) ?_; (with_reducible refine (impl_within.calls a1 0 (wrap64 ((l0.length : Int) - 1)) true _ A3.out).mono ?_); rintro e w' ⟨rfl, ⟨nd, rfl⟩⟩; refine ⟨_, rfl, ?_⟩) | ((with_reducible refine gate_callee (f := 34) rfl ?_); refine goesL_ (some 15) rfl rfl Tryd.func34 (by kernel_rfl) rfl #[.slice A0 l0.length c0, .int .i64 a1] rfl (by (try simp only [List.map_toArray, List.map_cons, List.map_nil]); first | done | rfl | (simp only [List.length_drop, List.length_take]; rfl)) ?_; (with_reducible refine (impl_byteAt.calls _ _ l0 a1 t311 _ ?side1 ?side2 A5.out).mono ?_); (case side1 => repeat (first | exact HR0.out | (with_reducible refine Kd.C_alloc ?_ _) | (with_reducible refine Kd.C_drewN ?_ _) | (with_reducible refine Kd.C_drew ?_))); (case side2 => exact HC0.out); rintro e w' ⟨rfl, ⟨nd, rfl⟩⟩; refine ⟨_, rfl, ?_⟩) | ((with_reducible refine gate_callee (f := 35) rfl ?_); refine goesL_ (some 17) rfl rfl Tryd.func35 (by kernel_rfl) rfl #[.int .i64 t311] rfl (by (try simp only [List.map_toArray, List.map_cons, List.map_nil]); first | done | rfl | (simp only [List.length_drop, List.length_take]; rfl)) ?_; (with_reducible refine (impl_isOp.calls t311 true _ A6.out).mono ?_); rintro e w' ⟨rfl, ⟨nd, rfl⟩⟩; refine ⟨_, rfl, ?_⟩) | ((with_reducible refine gate_callee (f := 37) rfl ?_); refine goesL_ (some 23) rfl rfl Tryd.func37 (by kernel_rfl) rfl #[.int .i64 t311] rfl (by (try simp only [List.map_toArray, List.map_cons, List.map_nil]); first | done | rfl | (simp only [List.length_drop, List.length_take]; rfl)) ?_; (with_reducible refine (impl_OpLen.calls k t311 t314 _ A8.out).mono ?_); rintro e w' ⟨rfl, ⟨nd, rfl⟩⟩; refine ⟨_, rfl, ?_⟩) | ((with_reducible refine gate_callee (f := 38) rfl ?_); refine goesL_ (some 31) rfl rfl Tryd.func38 (by kernel_rfl) rfl #[.int .i64 t311] rfl (by (try simp only [List.map_toArray, List.map_cons, List.map_nil]); first | done | rfl | (simp only [List.length_drop, List.length_take]; rfl)) ?_; (with_reducible refine (impl_OpName.calls t311 t316 _ A13.out).mono ?_); rintro e w18 ⟨rfl, hb⟩; refine ⟨_, rfl, ?_⟩; have n0_ := Aside0.mk (below_step (by repeat (first | (with_reducible first | exact HB.out | apply below_alloc | apply pw_below_drewN | apply below_drew1) | exact HB.out)) hb); clear HB; have HB := n0_; clear n0_; (try clear hb); (try clear hb2); (try clear hk); (try clear hi)) | ((with_reducible refine gate_callee (f := 34) rfl ?_); refine goesL_ (some 36) rfl rfl Tryd.func34 (by kernel_rfl) rfl #[.slice A0 l0.length c0, .int .i64 (wrap64 (a1 + 1))] rfl (by (try simp only [List.map_toArray, List.map_cons, List.map_nil]); first | done | rfl | (simp only [List.length_drop, List.length_take]; rfl)) ?_; (with_reducible refine (impl_byteAt.calls _ _ l0 (wrap64 (a1 + 1)) t317 _ ?side1 ?side2 A15.out).mono ?_); (case side1 => repeat (first | exact (Kd.C_below HR0.out HB.out) | (with_reducible refine Kd.C_alloc ?_ _) | (with_reducible refine Kd.C_drewN ?_ _) | (with_reducible refine Kd.C_drew ?_))); (case side2 => exact HC0.out); rintro e w' ⟨rfl, ⟨nd, rfl⟩⟩; refine ⟨_, rfl, ?_⟩) | ((with_reducible refine gate_callee (f := 36) rfl ?_); refine goesL_ (some 37) rfl rfl Tryd.func36 (by kernel_rfl) rfl #[.int .i64 t317] rfl (by (try simp only [List.map_toArray, List.map_cons, List.map_nil]); first | done | rfl | (simp only [List.length_drop, List.length_take]; rfl)) ?_; (with_reducible refine (impl_digits.calls k t317 t318 _ A16.out ?tab).mono ?_); (case tab => exact HT.out.on (by repeat (first | (with_reducible first | exact HB.out | apply below_alloc | apply pw_below_drewN | apply below_drew1) | exact HB.out))); rintro e w19 ⟨rfl, hb⟩; refine ⟨_, rfl, ?_⟩; have n0_ := Aside0.mk (below_step (by repeat (first | (with_reducible first | exact HB.out | apply below_alloc | apply pw_below_drewN | apply below_drew1) | exact HB.out)) hb); clear HB; have HB := n0_; clear n0_; (try clear hb); (try clear hb2); (try clear hk); (try clear hi)))
              go_ret2
              exact ⟨by first | rfl | (simp [errW_none, errW_some] <;> rfl) | (simp [*, errW_none, errW_some] <;> rfl), by repeat (first | (with_reducible first | exact HB.out | apply below_alloc | apply pw_below_drewN | apply below_drew1) | exact HB.out)⟩
            · rw [if_neg c17] at H
              exact absurd H (by simp)
          · rw [if_neg c14] at H
            exact absurd H (by simp)
        · rw [if_neg c12] at H
          have c12b0 : (t314 == 2) = false := beq_eq_false_iff_ne.mpr c12
          have c12b1 : (t314 != 2) = true := bne_iff_ne.mpr c12
          replace H := Option.bind_eq_some_iff.mp H
          obtain ⟨t319, A200, H⟩ := H
          replace H : (if t319.size + 1 ≤ 9223372036854775807 then ((impl_byteAt.f l0 (wrap64 (a1 + 1))).bind fun t320 => ((impl_byteAt.f l0 (wrap64 (a1 + 2))).bind fun t321 => ((impl_Join.f t320 t321).bind fun t322 => ((impl_digits.f k t322).bind fun t323 => (if (t319 ++ (⟨#[32]⟩ : ByteArray)).size + t323.size ≤ 9223372036854775807 then (some ((t319 ++ (⟨#[32]⟩ : ByteArray)) ++ t323, 3)) else (none)))))) else (none)) = some (r1, r2) := H
          have A20 := Aside0.mk A200
          clear A200
          by_cases c21 : t319.size + 1 ≤ 9223372036854775807
          · rw [if_pos c21] at H
            have c21b0 := eq_true c21
            have c21b1 : decide (t319.size + 1 ≤ 9223372036854775807) = true := decide_eq_true c21
            try have c21b2 : (9223372036854775807 < t319.size + 1) = False := eq_false (Nat.not_lt.2 c21)
            replace H := Option.bind_eq_some_iff.mp H
            obtain ⟨t320, A220, H⟩ := H
            replace H : ((impl_byteAt.f l0 (wrap64 (a1 + 2))).bind fun t321 => ((impl_Join.f t320 t321).bind fun t322 => ((impl_digits.f k t322).bind fun t323 => (if (t319 ++ (⟨#[32]⟩ : ByteArray)).size + t323.size ≤ 9223372036854775807 then (some ((t319 ++ (⟨#[32]⟩ : ByteArray)) ++ t323, 3)) else (none))))) = some (r1, r2) := H
            have A22 := Aside0.mk A220
            clear A220
            replace H := Option.bind_eq_some_iff.mp H
            obtain ⟨t321, A230, H⟩ := H
            replace H : ((impl_Join.f t320 t321).bind fun t322 => ((impl_digits.f k t322).bind fun t323 => (if (t319 ++ (⟨#[32]⟩ : ByteArray)).size + t323.size ≤ 9223372036854775807 then (some ((t319 ++ (⟨#[32]⟩ : ByteArray)) ++ t323, 3)) else (none)))) = some (r1, r2) := H
            have A23 := Aside0.mk A230
            clear A230
            replace H := Option.bind_eq_some_iff.mp H
            obtain ⟨t322, A240, H⟩ := H
            replace H : ((impl_digits.f k t322).bind fun t323 => (if (t319 ++ (⟨#[32]⟩ : ByteArray)).size + t323.size ≤ 9223372036854775807 then (some ((t319 ++ (⟨#[32]⟩ : ByteArray)) ++ t323, 3)) else (none))) = some (r1, r2) := H
            have A24 := Aside0.mk A240
            clear A240
            replace H := Option.bind_eq_some_iff.mp H
            obtain ⟨t323, A250, H⟩ := H
            replace H : (if (t319 ++ (⟨#[32]⟩ : ByteArray)).size + t323.size ≤ 9223372036854775807 then (some ((t319 ++ (⟨#[32]⟩ : ByteArray)) ++ t323, 3)) else (none)) = some (r1, r2) := H
            have A25 := Aside0.mk A250
            clear A250
            by_cases c26 : (t319 ++ (⟨#[32]⟩ : ByteArray)).size + t323.size ≤ 9223372036854775807
            · rw [if_pos c26] at H
              have c26b0 := eq_true c26
              have c26b1 : decide ((t319 ++ (⟨#[32]⟩ : ByteArray)).size + t323.size ≤ 9223372036854775807) = true := decide_eq_true c26
              try have c26b2 : (9223372036854775807 < (t319 ++ (⟨#[32]⟩ : ByteArray)).size + t323.size) = False := eq_false (Nat.not_lt.2 c26)
              have c26f : (9223372036854775807 < t319.size + 1 + t323.size) = False := eq_false (by have h_ := c26; rw [ByteArray.size_append] at h_; exact Nat.not_lt.2 h_)
              simp only [Option.some.injEq, Prod.mk.injEq] at H
              obtain ⟨rfl, rfl⟩ := H
              go_enter Tryd.func17, Tryd.ntmps17
              go_wp2_with (first | ((with_reducible refine gate_callee (f := 33) rfl ?_); refine goesL_ (some 11) rfl rfl Tryd.func33 (by kernel_rfl) rfl #[.int .i64 a1, .int .i64 0, .int .i64 (wrap64 ((l0.length : Int) - 1))] rfl (by (try simp only [List.map_toArray, List.map_cons, List.map_nil]); first | done | rfl | (simp only [List.length_drop, List.length_take]; rfl)) ?_; (with_reducible refine (impl_within.calls a1 0 (wrap64 ((l0.length : Int) - 1)) true _ A3.out).mono ?_); rintro e w' ⟨rfl, ⟨nd, rfl⟩⟩; refine ⟨_, rfl, ?_⟩) | ((with_reducible refine gate_callee (f := 34) rfl ?_); refine goesL_ (some 15) rfl rfl Tryd.func34 (by kernel_rfl) rfl #[.slice A0 l0.length c0, .int .i64 a1] rfl (by (try simp only [List.map_toArray, List.map_cons, List.map_nil]); first | done | rfl | (simp only [List.length_drop, List.length_take]; rfl)) ?_; (with_reducible refine (impl_byteAt.calls _ _ l0 a1 t311 _ ?side1 ?side2 A5.out).mono ?_); (case side1 => repeat (first | exact HR0.out | (with_reducible refine Kd.C_alloc ?_ _) | (with_reducible refine Kd.C_drewN ?_ _) | (with_reducible refine Kd.C_drew ?_))); (case side2 => exact HC0.out); rintro e w' ⟨rfl, ⟨nd, rfl⟩⟩; refine ⟨_, rfl, ?_⟩) | ((with_reducible refine gate_callee (f := 35) rfl ?_); refine goesL_ (some 17) rfl rfl Tryd.func35 (by kernel_rfl) rfl #[.int .i64 t311] rfl (by (try simp only [List.map_toArray, List.map_cons, List.map_nil]); first | done | rfl | (simp only [List.length_drop, List.length_take]; rfl)) ?_; (with_reducible refine (impl_isOp.calls t311 true _ A6.out).mono ?_); rintro e w' ⟨rfl, ⟨nd, rfl⟩⟩; refine ⟨_, rfl, ?_⟩) | ((with_reducible refine gate_callee (f := 37) rfl ?_); refine goesL_ (some 23) rfl rfl Tryd.func37 (by kernel_rfl) rfl #[.int .i64 t311] rfl (by (try simp only [List.map_toArray, List.map_cons, List.map_nil]); first | done | rfl | (simp only [List.length_drop, List.length_take]; rfl)) ?_; (with_reducible refine (impl_OpLen.calls k t311 t314 _ A8.out).mono ?_); rintro e w' ⟨rfl, ⟨nd, rfl⟩⟩; refine ⟨_, rfl, ?_⟩) | ((with_reducible refine gate_callee (f := 38) rfl ?_); refine goesL_ (some 40) rfl rfl Tryd.func38 (by kernel_rfl) rfl #[.int .i64 t311] rfl (by (try simp only [List.map_toArray, List.map_cons, List.map_nil]); first | done | rfl | (simp only [List.length_drop, List.length_take]; rfl)) ?_; (with_reducible refine (impl_OpName.calls t311 t319 _ A20.out).mono ?_); rintro e w27 ⟨rfl, hb⟩; refine ⟨_, rfl, ?_⟩; have n0_ := Aside0.mk (below_step (by repeat (first | (with_reducible first | exact HB.out | apply below_alloc | apply pw_below_drewN | apply below_drew1) | exact HB.out)) hb); clear HB; have HB := n0_; clear n0_; (try clear hb); (try clear hb2); (try clear hk); (try clear hi)) | ((with_reducible refine gate_callee (f := 34) rfl ?_); refine goesL_ (some 45) rfl rfl Tryd.func34 (by kernel_rfl) rfl #[.slice A0 l0.length c0, .int .i64 (wrap64 (a1 + 1))] rfl (by (try simp only [List.map_toArray, List.map_cons, List.map_nil]); first | done | rfl | (simp only [List.length_drop, List.length_take]; rfl)) ?_; (with_reducible refine (impl_byteAt.calls _ _ l0 (wrap64 (a1 + 1)) t320 _ ?side1 ?side2 A22.out).mono ?_); (case side1 => repeat (first | exact (Kd.C_below HR0.out HB.out) | (with_reducible refine Kd.C_alloc ?_ _) | (with_reducible refine Kd.C_drewN ?_ _) | (with_reducible refine Kd.C_drew ?_))); (case side2 => exact HC0.out); rintro e w' ⟨rfl, ⟨nd, rfl⟩⟩; refine ⟨_, rfl, ?_⟩) | ((with_reducible refine gate_callee (f := 34) rfl ?_); refine goesL_ (some 49) rfl rfl Tryd.func34 (by kernel_rfl) rfl #[.slice A0 l0.length c0, .int .i64 (wrap64 (a1 + 2))] rfl (by (try simp only [List.map_toArray, List.map_cons, List.map_nil]); first | done | rfl | (simp only [List.length_drop, List.length_take]; rfl)) ?_; (with_reducible refine (impl_byteAt.calls _ _ l0 (wrap64 (a1 + 2)) t321 _ ?side1 ?side2 A23.out).mono ?_); (case side1 => repeat (first | exact (Kd.C_below HR0.out (by repeat (first | (with_reducible first | exact HB.out | apply below_alloc | apply pw_below_drewN | apply below_drew1) | exact HB.out))) | (with_reducible refine Kd.C_alloc ?_ _) | (with_reducible refine Kd.C_drewN ?_ _) | (with_reducible refine Kd.C_drew ?_))); (case side2 => exact HC0.out); rintro e w' ⟨rfl, ⟨nd, rfl⟩⟩; refine ⟨_, rfl, ?_⟩) | ((with_reducible refine gate_callee (f := 39) rfl ?_); refine goesL_ (some 50) rfl rfl Tryd.func39 (by kernel_rfl) rfl #[.int .i64 t320, .int .i64 t321] rfl (by (try simp only [List.map_toArray, List.map_cons, List.map_nil]); first | done | rfl | (simp only [List.length_drop, List.length_take]; rfl)) ?_; (with_reducible refine (impl_Join.calls t320 t321 t322 _ A24.out).mono ?_); rintro e w' ⟨rfl, ⟨nd, rfl⟩⟩; refine ⟨_, rfl, ?_⟩) | ((with_reducible refine gate_callee (f := 36) rfl ?_); refine goesL_ (some 51) rfl rfl Tryd.func36 (by kernel_rfl) rfl #[.int .i64 t322] rfl (by (try simp only [List.map_toArray, List.map_cons, List.map_nil]); first | done | rfl | (simp only [List.length_drop, List.length_take]; rfl)) ?_; (with_reducible refine (impl_digits.calls k t322 t323 _ A25.out ?tab).mono ?_); (case tab => exact HT.out.on (by repeat (first | (with_reducible first | exact HB.out | apply below_alloc | apply pw_below_drewN | apply below_drew1) | exact HB.out))); rintro e w28 ⟨rfl, hb⟩; refine ⟨_, rfl, ?_⟩; have n0_ := Aside0.mk (below_step (by repeat (first | (with_reducible first | exact HB.out | apply below_alloc | apply pw_below_drewN | apply below_drew1) | exact HB.out)) hb); clear HB; have HB := n0_; clear n0_; (try clear hb); (try clear hb2); (try clear hk); (try clear hi)))
              go_ret2
              exact ⟨by first | rfl | (simp [errW_none, errW_some] <;> rfl) | (simp [*, errW_none, errW_some] <;> rfl), by repeat (first | (with_reducible first | exact HB.out | apply below_alloc | apply pw_below_drewN | apply below_drew1) | exact HB.out)⟩
            · rw [if_neg c26] at H
              exact absurd H (by simp)
          · rw [if_neg c21] at H
            exact absurd H (by simp)
    · replace c7 := Bool.eq_false_iff.mpr c7
      subst c7
      have H1 : ((impl_digits.f k t311).bind fun t313 => (if 5 + t313.size ≤ 9223372036854775807 then (some ((⟨#[98, 121, 116, 101, 32]⟩ : ByteArray) ++ t313, 1)) else (none))) = some (r1, r2) := by rw [if_neg (show ¬ (false = true) by decide)] at H; exact H
      clear H
      have H := H1
      clear H1
      replace H := Option.bind_eq_some_iff.mp H
      obtain ⟨t313, A290, H⟩ := H
      replace H : (if 5 + t313.size ≤ 9223372036854775807 then (some ((⟨#[98, 121, 116, 101, 32]⟩ : ByteArray) ++ t313, 1)) else (none)) = some (r1, r2) := H
      have A29 := Aside0.mk A290
      clear A290
      by_cases c30 : 5 + t313.size ≤ 9223372036854775807
      · rw [if_pos c30] at H
        have c30b0 := eq_true c30
        have c30b1 : decide (5 + t313.size ≤ 9223372036854775807) = true := decide_eq_true c30
        try have c30b2 : (9223372036854775807 < 5 + t313.size) = False := eq_false (Nat.not_lt.2 c30)
        simp only [Option.some.injEq, Prod.mk.injEq] at H
        obtain ⟨rfl, rfl⟩ := H
        go_enter Tryd.func17, Tryd.ntmps17
        go_wp2_with (first | ((with_reducible refine gate_callee (f := 33) rfl ?_); refine goesL_ (some 11) rfl rfl Tryd.func33 (by kernel_rfl) rfl #[.int .i64 a1, .int .i64 0, .int .i64 (wrap64 ((l0.length : Int) - 1))] rfl (by (try simp only [List.map_toArray, List.map_cons, List.map_nil]); first | done | rfl | (simp only [List.length_drop, List.length_take]; rfl)) ?_; (with_reducible refine (impl_within.calls a1 0 (wrap64 ((l0.length : Int) - 1)) true _ A3.out).mono ?_); rintro e w' ⟨rfl, ⟨nd, rfl⟩⟩; refine ⟨_, rfl, ?_⟩) | ((with_reducible refine gate_callee (f := 34) rfl ?_); refine goesL_ (some 15) rfl rfl Tryd.func34 (by kernel_rfl) rfl #[.slice A0 l0.length c0, .int .i64 a1] rfl (by (try simp only [List.map_toArray, List.map_cons, List.map_nil]); first | done | rfl | (simp only [List.length_drop, List.length_take]; rfl)) ?_; (with_reducible refine (impl_byteAt.calls _ _ l0 a1 t311 _ ?side1 ?side2 A5.out).mono ?_); (case side1 => repeat (first | exact HR0.out | (with_reducible refine Kd.C_alloc ?_ _) | (with_reducible refine Kd.C_drewN ?_ _) | (with_reducible refine Kd.C_drew ?_))); (case side2 => exact HC0.out); rintro e w' ⟨rfl, ⟨nd, rfl⟩⟩; refine ⟨_, rfl, ?_⟩) | ((with_reducible refine gate_callee (f := 35) rfl ?_); refine goesL_ (some 17) rfl rfl Tryd.func35 (by kernel_rfl) rfl #[.int .i64 t311] rfl (by (try simp only [List.map_toArray, List.map_cons, List.map_nil]); first | done | rfl | (simp only [List.length_drop, List.length_take]; rfl)) ?_; (with_reducible refine (impl_isOp.calls t311 false _ A6.out).mono ?_); rintro e w' ⟨rfl, ⟨nd, rfl⟩⟩; refine ⟨_, rfl, ?_⟩) | ((with_reducible refine gate_callee (f := 36) rfl ?_); refine goesL_ (some 20) rfl rfl Tryd.func36 (by kernel_rfl) rfl #[.int .i64 t311] rfl (by (try simp only [List.map_toArray, List.map_cons, List.map_nil]); first | done | rfl | (simp only [List.length_drop, List.length_take]; rfl)) ?_; (with_reducible refine (impl_digits.calls k t311 t313 _ A29.out ?tab).mono ?_); (case tab => exact HT.out.on (by repeat (first | (with_reducible first | exact HB.out | apply below_alloc | apply pw_below_drewN | apply below_drew1) | exact HB.out))); rintro e w31 ⟨rfl, hb⟩; refine ⟨_, rfl, ?_⟩; have n0_ := Aside0.mk (below_step (by repeat (first | (with_reducible first | exact HB.out | apply below_alloc | apply pw_below_drewN | apply below_drew1) | exact HB.out)) hb); clear HB; have HB := n0_; clear n0_; (try clear hb); (try clear hb2); (try clear hk); (try clear hi)))
        go_ret2
        exact ⟨by first | rfl | (simp [errW_none, errW_some] <;> rfl) | (simp [*, errW_none, errW_some] <;> rfl), by repeat (first | (with_reducible first | exact HB.out | apply below_alloc | apply pw_below_drewN | apply below_drew1) | exact HB.out)⟩
      · rw [if_neg c30] at H
        exact absurd H (by simp)
  · replace c4 := Bool.eq_false_iff.mpr c4
    subst c4
    have H1 : (some ((⟨#[]⟩ : ByteArray), 0)) = some (r1, r2) := by rw [if_neg (show ¬ (false = true) by decide)] at H; exact H
    clear H
    have H := H1
    clear H1
    simp only [Option.some.injEq, Prod.mk.injEq] at H
    obtain ⟨rfl, rfl⟩ := H
    go_enter Tryd.func17, Tryd.ntmps17
    go_wp2_with (first | ((with_reducible refine gate_callee (f := 33) rfl ?_); refine goesL_ (some 11) rfl rfl Tryd.func33 (by kernel_rfl) rfl #[.int .i64 a1, .int .i64 0, .int .i64 (wrap64 ((l0.length : Int) - 1))] rfl (by (try simp only [List.map_toArray, List.map_cons, List.map_nil]); first | done | rfl | (simp only [List.length_drop, List.length_take]; rfl)) ?_; (with_reducible refine (impl_within.calls a1 0 (wrap64 ((l0.length : Int) - 1)) false _ A3.out).mono ?_); rintro e w' ⟨rfl, ⟨nd, rfl⟩⟩; refine ⟨_, rfl, ?_⟩))
    go_ret2
    exact ⟨by first | rfl | (simp [errW_none, errW_some] <;> rfl) | (simp [*, errW_none, errW_some] <;> rfl), by repeat (first | (with_reducible first | exact HB.out | apply below_alloc | apply pw_below_drewN | apply below_drew1) | exact HB.out)⟩

/-! ### impl_Listing: function 15 -/
def impl_Listing.l0 : Nat → List Int → Int → ByteArray → Int → Int → Option (ByteArray)
  | 0, _, _, _, _, _ => none
  | k + 1, x0, x1, x7, x11, x12 => if x12 < x11 then ((impl_LineOf.f k x0 x1).bind fun bt324 => (if bt324.2 = 0 then (some x7) else (if bt324.1.size + 1 ≤ 9223372036854775807 then (if x7.size + (bt324.1 ++ (⟨#[10]⟩ : ByteArray)).size ≤ 9223372036854775807 then (impl_Listing.l0 k x0 (wrap64 (x1 + bt324.2)) (x7 ++ (bt324.1 ++ (⟨#[10]⟩ : ByteArray))) x11 (wrap64 (x12 + 1))) else (none)) else (none)))) else (some x7)
def impl_Listing.f (k : Nat) (l0 : List Int) (a1 : Int) (a2 : Int) : Option (ByteArray) := impl_Listing.l0 k l0 a1 (⟨#[]⟩ : ByteArray) (mn a2 256) 0
set_option maxHeartbeats 8000000 in
set_option maxRecDepth 100000 in
theorem impl_Listing.calls (k : Nat) (A0 : Option Addr) (c0 : Nat) (l0 : List Int) (a1 : Int) (a2 : Int) (r : ByteArray) (w : World) (hr0 : Kd.C (Kd.int .i64) w A0 l0.length l0) (hc0 : l0.length ≤ c0) (h : impl_Listing.f k l0 a1 a2 = some r) (hT : Tabs w) :
    Calls Tryd.prog 15 #[.slice A0 l0.length c0, .int .i64 a1, .int .i64 a2] w fun e w' => e = .returned (.string r) ∧ Below w.heap.size w w' := by
  have HT := Aside0.mk hT
  clear hT
  have HR0 := Aside0.mk hr0
  have HC0 := Aside0.mk hc0
  clear hr0 hc0
  have HB := Aside0.mk (Below.refl w.heap.size w)
  have H : (impl_Listing.l0 k l0 a1 (⟨#[]⟩ : ByteArray) (mn a2 256) 0) = some r := h
  clear h
  obtain ⟨ji4, hji4⟩ : ∃ j_ : Int, (mn a2 256) = j_ := ⟨_, rfl⟩
  replace H : (impl_Listing.l0 k l0 a1 (⟨#[]⟩ : ByteArray) ji4 0) = some r := by first | (rw [hji4] at H; exact H) | (simp only [hji4] at H ⊢; exact H)
  (try (have hji4h : ji4 ≤ 256 := by (rw [← hji4]; unfold mn; (repeat' split) <;> omega)))
  (try (have hji4g : ji4 ≤ 64 := by omega))
  have hji4_ : (if 256 < a2 then 256 else a2) = ji4 := hji4
  have H' := Aside0.mk H
  clear H
  go_enter Tryd.func15, Tryd.ntmps15
  go_wp2
  go_loopg [1, 7, 12] k (fun kq v1 v7 v12 w' => ∃ (x1_1 : Int) (x7_1 : ByteArray) (x12_1 : Int), v1 = .int .i64 x1_1 ∧ v7 = .string x7_1 ∧ v12 = .int .i64 x12_1 ∧ Aside0 (impl_Listing.l0 kq l0 x1_1 x7_1 ji4 x12_1 = some r) ∧ Aside0 (kq ≤ k) ∧ Aside0 (Below w.heap.size w w'))
  case atStart => exact ⟨(a1), ((⟨#[]⟩ : ByteArray)), (0), (by first | rfl | (simp; done) | (simp [*]; done)), (by first | rfl | (simp; done) | (simp [*]; done)), (by first | rfl | (simp; done) | (simp [*]; done)), H', ⟨Nat.le_refl _⟩, ⟨by repeat (first | (with_reducible first | exact HB.out | apply below_alloc | apply pw_below_drewN | apply below_drew1) | exact HB.out)⟩⟩
  case round =>
    clear H'
    try clear c1
    try clear p2
    obtain ⟨x1_1, x7_1, x12_1, rfl, rfl, rfl, HA, HK1, HB⟩ := hrel
    cases gk with
    | zero => exact absurd HA.out (by simp [impl_Listing.l0])
    | succ k1 =>
      have H := HA.out
      clear HA
      simp only [impl_Listing.l0] at H
      by_cases c5 : x12_1 < ji4
      · rw [if_pos c5] at H
        have c5b0 : decide (x12_1 < ji4) = true := decide_eq_true c5
        clear c5
        replace H := Option.bind_eq_some_iff.mp H
        obtain ⟨⟨t324, t325⟩, A60, H⟩ := H
        replace H : (if t325 = 0 then (some x7_1) else (if t324.size + 1 ≤ 9223372036854775807 then (if x7_1.size + (t324 ++ (⟨#[10]⟩ : ByteArray)).size ≤ 9223372036854775807 then (impl_Listing.l0 k1 l0 (wrap64 (x1_1 + t325)) (x7_1 ++ (t324 ++ (⟨#[10]⟩ : ByteArray))) ji4 (wrap64 (x12_1 + 1))) else (none)) else (none))) = some r := H
        have A6 := Aside0.mk A60
        clear A60
        by_cases c7 : t325 = 0
        · rw [if_pos c7] at H
          have c7b0 : (t325 == 0) = true := beq_iff_eq.mpr c7
          have c7b1 : (t325 != 0) = false := bne_eq_false_iff_eq.mpr c7
          clear c7
          obtain rfl := Option.some.inj H
          go_wp2_with (first | ((with_reducible refine gate_callee (f := 17) rfl ?_); refine goesL_ (some 17) rfl rfl Tryd.func17 (by kernel_rfl) rfl #[.slice A0 l0.length c0, .int .i64 x1_1] rfl (by (try simp only [List.map_toArray, List.map_cons, List.map_nil]); first | done | rfl | (simp only [List.length_drop, List.length_take]; rfl)) ?_; (with_reducible refine (impl_LineOf.calls k1 _ _ l0 x1_1 t324 t325 _ ?side1 ?side2 A6.out ?tab).mono ?_); (case tab => exact HT.out.on (by repeat (first | (with_reducible first | exact HB.out | apply below_alloc | apply pw_below_drewN | apply below_drew1) | exact HB.out))); (case side1 => repeat (first | exact (Kd.C_below HR0.out HB.out) | (with_reducible refine Kd.C_alloc ?_ _) | (with_reducible refine Kd.C_drewN ?_ _) | (with_reducible refine Kd.C_drew ?_))); (case side2 => exact HC0.out); rintro e w8 ⟨rfl, hb⟩; refine ⟨_, rfl, ?_⟩; have n0_ := Aside0.mk (below_step (by repeat (first | (with_reducible first | exact HB.out | apply below_alloc | apply pw_below_drewN | apply below_drew1) | exact HB.out)) hb); clear HB; have HB := n0_; clear n0_; (try clear hb); (try clear hb2); (try clear hk); (try clear hi)))
          go_ret
          exact ⟨by first | rfl | (simp [errW_none, errW_some] <;> rfl) | (simp only [← hji4]; first | rfl | (simp [errW_none, errW_some] <;> rfl)) | (simp [*, errW_none, errW_some] <;> rfl), by repeat (first | (with_reducible first | exact HB.out | apply below_alloc | apply pw_below_drewN | apply below_drew1) | exact HB.out)⟩
        · rw [if_neg c7] at H
          have c7b0 : (t325 == 0) = false := beq_eq_false_iff_ne.mpr c7
          have c7b1 : (t325 != 0) = true := bne_iff_ne.mpr c7
          by_cases c9 : t324.size + 1 ≤ 9223372036854775807
          · rw [if_pos c9] at H
            have c9b0 := eq_true c9
            have c9b1 : decide (t324.size + 1 ≤ 9223372036854775807) = true := decide_eq_true c9
            try have c9b2 : (9223372036854775807 < t324.size + 1) = False := eq_false (Nat.not_lt.2 c9)
            by_cases c10 : x7_1.size + (t324 ++ (⟨#[10]⟩ : ByteArray)).size ≤ 9223372036854775807
            · rw [if_pos c10] at H
              have c10b0 := eq_true c10
              have c10b1 : decide (x7_1.size + (t324 ++ (⟨#[10]⟩ : ByteArray)).size ≤ 9223372036854775807) = true := decide_eq_true c10
              try have c10b2 : (9223372036854775807 < x7_1.size + (t324 ++ (⟨#[10]⟩ : ByteArray)).size) = False := eq_false (Nat.not_lt.2 c10)
              have H' := Aside0.mk H
              clear H
              go_wp2_with (first | ((with_reducible refine gate_callee (f := 17) rfl ?_); refine goesL_ (some 17) rfl rfl Tryd.func17 (by kernel_rfl) rfl #[.slice A0 l0.length c0, .int .i64 x1_1] rfl (by (try simp only [List.map_toArray, List.map_cons, List.map_nil]); first | done | rfl | (simp only [List.length_drop, List.length_take]; rfl)) ?_; (with_reducible refine (impl_LineOf.calls k1 _ _ l0 x1_1 t324 t325 _ ?side1 ?side2 A6.out ?tab).mono ?_); (case tab => exact HT.out.on (by repeat (first | (with_reducible first | exact HB.out | apply below_alloc | apply pw_below_drewN | apply below_drew1) | exact HB.out))); (case side1 => repeat (first | exact (Kd.C_below HR0.out HB.out) | (with_reducible refine Kd.C_alloc ?_ _) | (with_reducible refine Kd.C_drewN ?_ _) | (with_reducible refine Kd.C_drew ?_))); (case side2 => exact HC0.out); rintro e w11 ⟨rfl, hb⟩; refine ⟨_, rfl, ?_⟩; have n0_ := Aside0.mk (below_step (by repeat (first | (with_reducible first | exact HB.out | apply below_alloc | apply pw_below_drewN | apply below_drew1) | exact HB.out)) hb); clear HB; have HB := n0_; clear n0_; (try clear hb); (try clear hb2); (try clear hk); (try clear hi)))
              go_roundg k1
              case measure => have := HK1.out; omega
              case rel => exact ⟨(wrap64 (x1_1 + t325)), (x7_1 ++ (t324 ++ (⟨#[10]⟩ : ByteArray))), (wrap64 (x12_1 + 1)), (by first | rfl | (simp; done) | (simp [*]; done)), (by first | rfl | (simp; done) | (simp [*]; done)), (by first | rfl | (simp; done) | (simp [*]; done)), H', ⟨by have := HK1.out; omega⟩, ⟨by repeat (first | (with_reducible first | exact HB.out | apply below_alloc | apply pw_below_drewN | apply below_drew1) | exact HB.out)⟩⟩
            · rw [if_neg c10] at H
              exact absurd H (by simp)
          · rw [if_neg c9] at H
            exact absurd H (by simp)
      · rw [if_neg c5] at H
        have c5b0 : decide (x12_1 < ji4) = false := decide_eq_false c5
        clear c5
        obtain rfl := Option.some.inj H
        go_wp2
        go_ret
        exact ⟨by first | rfl | (simp [errW_none, errW_some] <;> rfl) | (simp only [← hji4]; first | rfl | (simp [errW_none, errW_some] <;> rfl)) | (simp [*, errW_none, errW_some] <;> rfl), by repeat (first | (with_reducible first | exact HB.out | apply below_alloc | apply pw_below_drewN | apply below_drew1) | exact HB.out)⟩

/-! ### spec_l1In: function 40 -/
def spec_l1In.f (a0 : Int) (a1 : Int) (a2 : Int) : Option (Bool) := if a0 ≥ a1 then (some (decide (a0 ≤ a2))) else (some false)
set_option maxHeartbeats 8000000 in
set_option maxRecDepth 100000 in
theorem spec_l1In.calls (a0 : Int) (a1 : Int) (a2 : Int) (r : Bool) (w : World) (h : spec_l1In.f a0 a1 a2 = some r) :
    Calls Tryd.prog 40 #[.int .i64 a0, .int .i64 a1, .int .i64 a2] w fun e w' => e = .returned (.bool r) ∧ Drawn0 w w' := by
  have H : (if a0 ≥ a1 then (some (decide (a0 ≤ a2))) else (some false)) = some r := h
  clear h
  by_cases c4 : a0 ≥ a1
  · rw [if_pos c4] at H
    have c4b0 : decide (a1 ≤ a0) = true := decide_eq_true c4
    clear c4
    obtain rfl := Option.some.inj H
    go_enter Tryd.func40, Tryd.ntmps40
    go_wp2
    go_ret
    exact ⟨by first | rfl | (simp; done) | (simp [*]; done), by repeat (first | exact Drawn0.refl _ | apply Drawn0.step)⟩
  · rw [if_neg c4] at H
    have c4b0 : decide (a1 ≤ a0) = false := decide_eq_false c4
    clear c4
    obtain rfl := Option.some.inj H
    go_enter Tryd.func40, Tryd.ntmps40
    go_wp2
    go_ret
    exact ⟨by first | rfl | (simp; done) | (simp [*]; done), by repeat (first | exact Drawn0.refl _ | apply Drawn0.step)⟩

/-! ### spec_Byte: function 24 -/
def spec_Byte.f (a0 : Int) : Option (Int) := some (Go.bits .and .i64 a0 255)
set_option maxHeartbeats 8000000 in
set_option maxRecDepth 100000 in
theorem spec_Byte.calls (a0 : Int) (r : Int) (w : World) (h : spec_Byte.f a0 = some r) :
    Calls Tryd.prog 24 #[.int .i64 a0] w fun e w' => e = .returned (.int .i64 r) ∧ Drawn0 w w' := by
  have H : (some (Go.bits .and .i64 a0 255)) = some r := h
  clear h
  obtain rfl := Option.some.inj H
  go_enter Tryd.func24, Tryd.ntmps24
  go_wp2
  go_ret
  exact ⟨by first | rfl | (simp; done) | (simp [*]; done), by repeat (first | exact Drawn0.refl _ | apply Drawn0.step)⟩

/-! ### spec_l4At: function 41 -/
def spec_l4At.f (l0 : List Int) (a1 : Int) : Option (Int) := if a1 ≥ (l0.length : Int) then (some 0) else (if 0 ≤ a1 then (if a1 < (l0.length : Int) then ((spec_Byte.f (rd l0 a1)).bind fun t327 => (some t327)) else (none)) else (none))
set_option maxHeartbeats 8000000 in
set_option maxRecDepth 100000 in
theorem spec_l4At.calls (A0 : Option Addr) (c0 : Nat) (l0 : List Int) (a1 : Int) (r : Int) (w : World) (hr0 : Kd.C (Kd.int .i64) w A0 l0.length l0) (hc0 : l0.length ≤ c0) (h : spec_l4At.f l0 a1 = some r) :
    Calls Tryd.prog 41 #[.slice A0 l0.length c0, .int .i64 a1] w fun e w' => e = .returned (.int .i64 r) ∧ Drawn0 w w' := by
  have HR0 := Aside0.mk hr0
  have HC0 := Aside0.mk hc0
  clear hr0 hc0
  have H : (if a1 ≥ (l0.length : Int) then (some 0) else (if 0 ≤ a1 then (if a1 < (l0.length : Int) then ((spec_Byte.f (rd l0 a1)).bind fun t327 => (some t327)) else (none)) else (none))) = some r := h
  clear h
  by_cases c3 : a1 ≥ (l0.length : Int)
  · rw [if_pos c3] at H
    have c3b0 : decide ((l0.length : Int) ≤ a1) = true := decide_eq_true c3
    clear c3
    obtain rfl := Option.some.inj H
    go_enter Tryd.func41, Tryd.ntmps41
    go_wp2
    go_ret
    exact ⟨by first | rfl | (simp; done) | (simp [*]; done), by repeat (first | exact Drawn0.refl _ | apply Drawn0.step)⟩
  · rw [if_neg c3] at H
    have c3b0 : decide ((l0.length : Int) ≤ a1) = false := decide_eq_false c3
    clear c3
    by_cases c4 : 0 ≤ a1
    · rw [if_pos c4] at H
      have c4b0 : decide (0 ≤ a1) = true := decide_eq_true c4
      clear c4
      by_cases c5 : a1 < (l0.length : Int)
      · rw [if_pos c5] at H
        have c5b0 : decide (a1 < (l0.length : Int)) = true := decide_eq_true c5
        clear c5
        replace H := Option.bind_eq_some_iff.mp H
        obtain ⟨t327, A60, H⟩ := H
        replace H : (some t327) = some r := H
        have A6 := Aside0.mk A60
        clear A60
        obtain rfl := Option.some.inj H
        have p326 : 0 ≤ (a1 : Int) := of_decide_eq_true (by first | (with_reducible assumption) | assumption)
        have q326 : a1 < (l0.length : Int) := of_decide_eq_true (by first | (with_reducible assumption) | assumption)
        obtain ⟨ad326, e326, hx326_0⟩ := Kd.at_int HR0.out a1 p326 q326
        cases e326
        replace p326 := eq_true p326
        replace q326 := eq_true q326
        go_enter Tryd.func41, Tryd.ntmps41
        go_wp2_with (first | ((with_reducible refine gate_callee (f := 24) rfl ?_); refine goesL_ (some 13) rfl rfl Tryd.func24 (by kernel_rfl) rfl #[.int .i64 (rd l0 a1)] rfl (by (try simp only [List.map_toArray, List.map_cons, List.map_nil]); first | done | rfl | (simp only [List.length_drop, List.length_take]; rfl)) ?_; (with_reducible refine (spec_Byte.calls (rd l0 a1) t327 _ A6.out).mono ?_); rintro e w' ⟨rfl, ⟨nd, rfl⟩⟩; refine ⟨_, rfl, ?_⟩))
        go_ret
        exact ⟨by first | rfl | (simp; done) | (simp [*]; done), by repeat (first | exact Drawn0.refl _ | apply Drawn0.step)⟩
      · rw [if_neg c5] at H
        exact absurd H (by simp)
    · rw [if_neg c4] at H
      exact absurd H (by simp)

/-! ### spec_OpLen: function 42 -/
def spec_OpLen.f (a0 : Int) : Option (Int) := (spec_l1In.f a0 0 29).bind fun t328 => (if t328 = true then ((some (([1, 2, 3, 3, 2, 2, 2, 2, 2, 2, 1, 1, 1, 1, 3, 3, 3, 3, 3, 3, 3, 1, 1, 1, 1, 1, 1, 1, 1, 3] : List Int) : List Int)).bind fun y329 => (if 0 ≤ a0 then (if a0 < (y329.length : Int) then (some (rd y329 a0)) else (none)) else (none))) else (some 1))
set_option maxHeartbeats 8000000 in
set_option maxRecDepth 100000 in
theorem spec_OpLen.calls (a0 : Int) (r : Int) (w : World) (h : spec_OpLen.f a0 = some r) :
    Calls Tryd.prog 42 #[.int .i64 a0] w fun e w' => e = .returned (.int .i64 r) ∧ Below w.heap.size w w' := by
  have HB := Aside0.mk (Below.refl w.heap.size w)
  have H : ((spec_l1In.f a0 0 29).bind fun t328 => (if t328 = true then ((some (([1, 2, 3, 3, 2, 2, 2, 2, 2, 2, 1, 1, 1, 1, 3, 3, 3, 3, 3, 3, 3, 1, 1, 1, 1, 1, 1, 1, 1, 3] : List Int) : List Int)).bind fun y329 => (if 0 ≤ a0 then (if a0 < (y329.length : Int) then (some (rd y329 a0)) else (none)) else (none))) else (some 1))) = some r := h
  clear h
  replace H := Option.bind_eq_some_iff.mp H
  obtain ⟨t328, A20, H⟩ := H
  replace H : (if t328 = true then ((some (([1, 2, 3, 3, 2, 2, 2, 2, 2, 2, 1, 1, 1, 1, 3, 3, 3, 3, 3, 3, 3, 1, 1, 1, 1, 1, 1, 1, 1, 3] : List Int) : List Int)).bind fun y329 => (if 0 ≤ a0 then (if a0 < (y329.length : Int) then (some (rd y329 a0)) else (none)) else (none))) else (some 1)) = some r := H
  have A2 := Aside0.mk A20
  clear A20
  by_cases c3 : t328 = true
  · subst c3
    have H1 : ((some (([1, 2, 3, 3, 2, 2, 2, 2, 2, 2, 1, 1, 1, 1, 3, 3, 3, 3, 3, 3, 3, 1, 1, 1, 1, 1, 1, 1, 1, 3] : List Int) : List Int)).bind fun y329 => (if 0 ≤ a0 then (if a0 < (y329.length : Int) then (some (rd y329 a0)) else (none)) else (none))) = some r := by rw [if_pos rfl] at H; exact H
    clear H
    have H := H1
    clear H1
    obtain ⟨y329, hy329⟩ : ∃ y_ : List Int, y_ = (([1, 2, 3, 3, 2, 2, 2, 2, 2, 2, 1, 1, 1, 1, 3, 3, 3, 3, 3, 3, 3, 1, 1, 1, 1, 1, 1, 1, 1, 3] : List Int)) := ⟨_, rfl⟩
    replace H : (if 0 ≤ a0 then (if a0 < (y329.length : Int) then (some (rd y329 a0)) else (none)) else (none)) = some r := by first | (rw [hy329]; with_reducible exact H) | (have H2_ := (Option.bind_some _ _).symm.trans H; rw [hy329]; with_reducible exact H2_) | (have H2_ := (Option.bind_some _ _).symm.trans H; with_reducible exact H2_) | with_reducible exact H | (rw [hy329]; exact H) | exact H
    have Ny329 := Aside0.mk hy329
    clear hy329
    by_cases c4 : 0 ≤ a0
    · rw [if_pos c4] at H
      have c4b0 : decide (0 ≤ a0) = true := decide_eq_true c4
      clear c4
      by_cases c5 : a0 < (y329.length : Int)
      · rw [if_pos c5] at H
        have c5b0 : decide (a0 < (y329.length : Int)) = true := decide_eq_true c5
        clear c5
        obtain rfl := Option.some.inj H
        go_enter Tryd.func42, Tryd.ntmps42
        go_wp2_with (first | ((with_reducible refine gate_callee (f := 40) rfl ?_); refine goesL_ (some 4) rfl rfl Tryd.func40 (by kernel_rfl) rfl #[.int .i64 a0, .int .i64 0, .int .i64 29] rfl (by (try simp only [List.map_toArray, List.map_cons, List.map_nil]); first | done | rfl | (simp only [List.length_drop, List.length_take]; rfl)) ?_; (with_reducible refine (spec_l1In.calls a0 0 29 true _ A2.out).mono ?_); rintro e w' ⟨rfl, ⟨nd, rfl⟩⟩; refine ⟨_, rfl, ?_⟩) | ((with_reducible refine gate_dst (N := 6) rfl ?_); refine Kd.R_lit (Kd.int .i64) _ 3 ?hg (N := 6) ?hd (xs := ([1, 2, 3, 3, 2, 2, 2, 2, 2, 2, 1, 1, 1, 1, 3, 3, 3, 3, 3, 3, 3, 1, 1, 1, 1, 1, 1, 1, 1, 3] : List Int)) (inner := [.int .i64 1, .int .i64 2, .int .i64 3, .int .i64 3, .int .i64 2, .int .i64 2, .int .i64 2, .int .i64 2, .int .i64 2, .int .i64 2, .int .i64 1, .int .i64 1, .int .i64 1, .int .i64 1, .int .i64 3, .int .i64 3, .int .i64 3, .int .i64 3, .int .i64 3, .int .i64 3, .int .i64 3, .int .i64 1, .int .i64 1, .int .i64 1, .int .i64 1, .int .i64 1, .int .i64 1, .int .i64 1, .int .i64 1, .int .i64 3]) (ok := fun _ => True) (okp := fun _ => True) ?hr ?hp (fun _ hk => hk) trivial (Below.refl _ _) (Nat.le_refl _) (by simp) ?_; (case hd => rfl); (case hg => rfl); (case hr => first | (go_simp; done) | (go_simp; rfl)); (case hp => exact (Reps.one (show Kd.M (Kd.int .i64) _ _ _ 1 [.int .i64 1] from rfl) (Reps.one (show Kd.M (Kd.int .i64) _ _ _ 2 [.int .i64 2] from rfl) (Reps.one (show Kd.M (Kd.int .i64) _ _ _ 3 [.int .i64 3] from rfl) (Reps.one (show Kd.M (Kd.int .i64) _ _ _ 3 [.int .i64 3] from rfl) (Reps.one (show Kd.M (Kd.int .i64) _ _ _ 2 [.int .i64 2] from rfl) (Reps.one (show Kd.M (Kd.int .i64) _ _ _ 2 [.int .i64 2] from rfl) (Reps.one (show Kd.M (Kd.int .i64) _ _ _ 2 [.int .i64 2] from rfl) (Reps.one (show Kd.M (Kd.int .i64) _ _ _ 2 [.int .i64 2] from rfl) (Reps.one (show Kd.M (Kd.int .i64) _ _ _ 2 [.int .i64 2] from rfl) (Reps.one (show Kd.M (Kd.int .i64) _ _ _ 2 [.int .i64 2] from rfl) (Reps.one (show Kd.M (Kd.int .i64) _ _ _ 1 [.int .i64 1] from rfl) (Reps.one (show Kd.M (Kd.int .i64) _ _ _ 1 [.int .i64 1] from rfl) (Reps.one (show Kd.M (Kd.int .i64) _ _ _ 1 [.int .i64 1] from rfl) (Reps.one (show Kd.M (Kd.int .i64) _ _ _ 1 [.int .i64 1] from rfl) (Reps.one (show Kd.M (Kd.int .i64) _ _ _ 3 [.int .i64 3] from rfl) (Reps.one (show Kd.M (Kd.int .i64) _ _ _ 3 [.int .i64 3] from rfl) (Reps.one (show Kd.M (Kd.int .i64) _ _ _ 3 [.int .i64 3] from rfl) (Reps.one (show Kd.M (Kd.int .i64) _ _ _ 3 [.int .i64 3] from rfl) (Reps.one (show Kd.M (Kd.int .i64) _ _ _ 3 [.int .i64 3] from rfl) (Reps.one (show Kd.M (Kd.int .i64) _ _ _ 3 [.int .i64 3] from rfl) (Reps.one (show Kd.M (Kd.int .i64) _ _ _ 3 [.int .i64 3] from rfl) (Reps.one (show Kd.M (Kd.int .i64) _ _ _ 1 [.int .i64 1] from rfl) (Reps.one (show Kd.M (Kd.int .i64) _ _ _ 1 [.int .i64 1] from rfl) (Reps.one (show Kd.M (Kd.int .i64) _ _ _ 1 [.int .i64 1] from rfl) (Reps.one (show Kd.M (Kd.int .i64) _ _ _ 1 [.int .i64 1] from rfl) (Reps.one (show Kd.M (Kd.int .i64) _ _ _ 1 [.int .i64 1] from rfl) (Reps.one (show Kd.M (Kd.int .i64) _ _ _ 1 [.int .i64 1] from rfl) (Reps.one (show Kd.M (Kd.int .i64) _ _ _ 1 [.int .i64 1] from rfl) (Reps.one (show Kd.M (Kd.int .i64) _ _ _ 1 [.int .i64 1] from rfl) (Reps.one (show Kd.M (Kd.int .i64) _ _ _ 3 [.int .i64 3] from rfl) (Reps.none _ _)))))))))))))))))))))))))))))))); intro v330 w6 ho7 hb hg_ hnew_; clear hg_ hnew_; (first | rw [← Ny329.out] at ho7 | (simp only [Int.reduceToNat] at ho7; rw [← Ny329.out] at ho7)); have n0_ := Aside0.mk (Kd.R_lower ho7 (below_size (by repeat (first | (with_reducible first | exact HB.out | apply below_alloc | apply pw_below_drewN | apply below_drew1) | exact HB.out)))); have n1_ := Aside0.mk (below_step (by repeat (first | (with_reducible first | exact HB.out | apply below_alloc | apply pw_below_drewN | apply below_drew1) | exact HB.out)) hb); clear HB; have HO331 := n0_; have HB := n1_; clear n0_ n1_; clear hb ho7; obtain ⟨Ao8, co8, eo8⟩ := Kd.R_slice HO331.out; subst eo8; have p332 : 0 ≤ (a0 : Int) := of_decide_eq_true (by first | (with_reducible assumption) | assumption); have q332 : a0 < (y329.length : Int) := of_decide_eq_true (by first | (with_reducible assumption) | assumption); obtain ⟨ad332, e332, hx332_0⟩ := Kd.at_int (Kd.R_reads' HO331.out).2.2 a0 p332 q332; cases e332; replace p332 := eq_true p332; replace q332 := eq_true q332))
        go_ret
        exact ⟨by first | rfl | (simp [errW_none, errW_some] <;> rfl) | (simp [*, errW_none, errW_some] <;> rfl), by repeat (first | (with_reducible first | exact HB.out | apply below_alloc | apply pw_below_drewN | apply below_drew1) | exact HB.out)⟩
      · rw [if_neg c5] at H
        exact absurd H (by simp)
    · rw [if_neg c4] at H
      exact absurd H (by simp)
  · replace c3 := Bool.eq_false_iff.mpr c3
    subst c3
    have H1 : (some 1) = some r := by rw [if_neg (show ¬ (false = true) by decide)] at H; exact H
    clear H
    have H := H1
    clear H1
    obtain rfl := Option.some.inj H
    go_enter Tryd.func42, Tryd.ntmps42
    go_wp2_with (first | ((with_reducible refine gate_callee (f := 40) rfl ?_); refine goesL_ (some 4) rfl rfl Tryd.func40 (by kernel_rfl) rfl #[.int .i64 a0, .int .i64 0, .int .i64 29] rfl (by (try simp only [List.map_toArray, List.map_cons, List.map_nil]); first | done | rfl | (simp only [List.length_drop, List.length_take]; rfl)) ?_; (with_reducible refine (spec_l1In.calls a0 0 29 false _ A2.out).mono ?_); rintro e w' ⟨rfl, ⟨nd, rfl⟩⟩; refine ⟨_, rfl, ?_⟩))
    go_ret
    exact ⟨by first | rfl | (simp [errW_none, errW_some] <;> rfl) | (simp [*, errW_none, errW_some] <;> rfl), by repeat (first | (with_reducible first | exact HB.out | apply below_alloc | apply pw_below_drewN | apply below_drew1) | exact HB.out)⟩

/-! ### spec_l4Digits: function 43 -/
def spec_l4Digits.l0 : Nat → Int → ByteArray → Option (ByteArray)
  | 0, _, _ => none
  | k + 1, x0, x3 => if x0 > 0 then ((some (([(wrap64 (48 + (Int.tmod x0 10))) % 256] : List Int) : List Int)).bind fun y333 => (if (strOfNums y333).size + x3.size ≤ 9223372036854775807 then (spec_l4Digits.l0 k (wrap64 (Int.tdiv x0 10)) ((strOfNums y333) ++ x3)) else (none))) else (some x3)
def spec_l4Digits.f (k : Nat) (a0 : Int) : Option (ByteArray) := if a0 = 0 then (some (⟨#[48]⟩ : ByteArray)) else (spec_l4Digits.l0 k a0 (⟨#[]⟩ : ByteArray))
set_option maxHeartbeats 8000000 in
set_option maxRecDepth 100000 in
theorem spec_l4Digits.calls (k : Nat) (a0 : Int) (r : ByteArray) (w : World) (h : spec_l4Digits.f k a0 = some r) :
    Calls Tryd.prog 43 #[.int .i64 a0] w fun e w' => e = .returned (.string r) ∧ Below w.heap.size w w' := by
  have HB := Aside0.mk (Below.refl w.heap.size w)
  have H : (if a0 = 0 then (some (⟨#[48]⟩ : ByteArray)) else (spec_l4Digits.l0 k a0 (⟨#[]⟩ : ByteArray))) = some r := h
  clear h
  by_cases c2 : a0 = 0
  · rw [if_pos c2] at H
    have c2b0 : (a0 == 0) = true := beq_iff_eq.mpr c2
    have c2b1 : (a0 != 0) = false := bne_eq_false_iff_eq.mpr c2
    clear c2
    obtain rfl := Option.some.inj H
    go_enter Tryd.func43, Tryd.ntmps43
    go_wp2
    go_ret
    exact ⟨by first | rfl | (simp [errW_none, errW_some] <;> rfl) | (simp [*, errW_none, errW_some] <;> rfl), by repeat (first | (with_reducible first | exact HB.out | apply below_alloc | apply pw_below_drewN | apply below_drew1) | exact HB.out)⟩
  · rw [if_neg c2] at H
    have c2b0 : (a0 == 0) = false := beq_eq_false_iff_ne.mpr c2
    have c2b1 : (a0 != 0) = true := bne_iff_ne.mpr c2
    have H' := Aside0.mk H
    clear H
    go_enter Tryd.func43, Tryd.ntmps43
    go_wp2
    go_loopg [0, 3] k (fun kq v0 v3 w' => ∃ (x0_1 : Int) (x3_1 : ByteArray), v0 = .int .i64 x0_1 ∧ v3 = .string x3_1 ∧ Aside0 (spec_l4Digits.l0 kq x0_1 x3_1 = some r) ∧ Aside0 (kq ≤ k) ∧ Aside0 (Below w.heap.size w w'))
    case atStart => exact ⟨(a0), ((⟨#[]⟩ : ByteArray)), (by first | rfl | (simp; done) | (simp [*]; done)), (by first | rfl | (simp; done) | (simp [*]; done)), H', ⟨Nat.le_refl _⟩, ⟨by repeat (first | (with_reducible first | exact HB.out | apply below_alloc | apply pw_below_drewN | apply below_drew1) | exact HB.out)⟩⟩
    case round =>
      clear H'
      try clear c2
      try clear c2b0
      try clear c2b1
      try clear p2
      obtain ⟨x0_1, x3_1, rfl, rfl, HA, HK1, HB⟩ := hrel
      cases gk with
      | zero => exact absurd HA.out (by simp [spec_l4Digits.l0])
      | succ k1 =>
        have H := HA.out
        clear HA
        simp only [spec_l4Digits.l0] at H
        by_cases c3 : x0_1 > 0
        · rw [if_pos c3] at H
          have c3b0 : decide (0 < x0_1) = true := decide_eq_true c3
          clear c3
          obtain ⟨y333, hy333⟩ : ∃ y_ : List Int, y_ = (([(wrap64 (48 + (Int.tmod x0_1 10))) % 256] : List Int)) := ⟨_, rfl⟩
          replace H : (if (strOfNums y333).size + x3_1.size ≤ 9223372036854775807 then (spec_l4Digits.l0 k1 (wrap64 (Int.tdiv x0_1 10)) ((strOfNums y333) ++ x3_1)) else (none)) = some r := by first | (rw [hy333]; with_reducible exact H) | (have H2_ := (Option.bind_some _ _).symm.trans H; rw [hy333]; with_reducible exact H2_) | (have H2_ := (Option.bind_some _ _).symm.trans H; with_reducible exact H2_) | with_reducible exact H | (rw [hy333]; exact H) | exact H
          have Ny333 := Aside0.mk hy333
          clear hy333
          by_cases c4 : (strOfNums y333).size + x3_1.size ≤ 9223372036854775807
          · rw [if_pos c4] at H
            have c4b0 := eq_true c4
            have c4b1 : decide ((strOfNums y333).size + x3_1.size ≤ 9223372036854775807) = true := decide_eq_true c4
            try have c4b2 : (9223372036854775807 < (strOfNums y333).size + x3_1.size) = False := eq_false (Nat.not_lt.2 c4)
            have H' := Aside0.mk H
            clear H
            go_wp2_with (first | ((with_reducible refine gate_dst (N := 12) rfl ?_); refine Kd.R_lit (Kd.int .u8) _ 5 ?hg (N := 12) ?hd (xs := ([(wrap64 (48 + (Int.tmod x0_1 10))) % 256] : List Int)) (inner := [.int .u8 ((wrap64 (48 + (Int.tmod x0_1 10))) % 256)]) (ok := fun _ => True) (okp := fun _ => True) ?hr ?hp (fun _ hk => hk) trivial (Below.refl _ _) (Nat.le_refl _) (by simp) ?_; (case hd => rfl); (case hg => rfl); (case hr => first | (go_simp; done) | (go_simp; rfl)); (case hp => exact (Reps.one (show Kd.M (Kd.int .u8) _ _ _ ((wrap64 (48 + (Int.tmod x0_1 10))) % 256) [.int .u8 ((wrap64 (48 + (Int.tmod x0_1 10))) % 256)] from rfl) (Reps.none _ _))); intro v334 w5 ho6 hb hg_ hnew_; clear hg_ hnew_; (first | rw [← Ny333.out] at ho6 | (simp only [Int.reduceToNat] at ho6; rw [← Ny333.out] at ho6)); have n0_ := Aside0.mk (Kd.R_lower ho6 (below_size (by repeat (first | (with_reducible first | exact HB.out | apply below_alloc | apply pw_below_drewN | apply below_drew1) | exact HB.out)))); have n1_ := Aside0.mk (below_step (by repeat (first | (with_reducible first | exact HB.out | apply below_alloc | apply pw_below_drewN | apply below_drew1) | exact HB.out)) hb); clear HB; have HO335 := n0_; have HB := n1_; clear n0_ n1_; clear hb ho6; have hcv7 := own_string (P := Tryd.prog) Tryd.underlying28 Tryd.underlying5 Tryd.underlying9 (Kd.own_of_R HO335.out)))
            go_roundg k1
            case measure => have := HK1.out; omega
            case rel => exact ⟨(wrap64 (Int.tdiv x0_1 10)), ((strOfNums y333) ++ x3_1), (by first | rfl | (simp; done) | (simp [*]; done)), (by first | rfl | (simp; done) | (simp [*]; done)), H', ⟨by have := HK1.out; omega⟩, ⟨by repeat (first | (with_reducible first | exact HB.out | apply below_alloc | apply pw_below_drewN | apply below_drew1) | exact HB.out)⟩⟩
          · rw [if_neg c4] at H
            exact absurd H (by simp)
        · rw [if_neg c3] at H
          have c3b0 : decide (0 < x0_1) = false := decide_eq_false c3
          clear c3
          obtain rfl := Option.some.inj H
          go_wp2
          go_ret
          exact ⟨by first | rfl | (simp [errW_none, errW_some] <;> rfl) | (simp [*, errW_none, errW_some] <;> rfl), by repeat (first | (with_reducible first | exact HB.out | apply below_alloc | apply pw_below_drewN | apply below_drew1) | exact HB.out)⟩

/-! ### spec_l3Names: function 60 -/
def spec_l3Names.f  : Option (List ByteArray) := some (([(⟨#[110, 111, 112]⟩ : ByteArray), (⟨#[108, 100, 105]⟩ : ByteArray), (⟨#[108, 100, 97]⟩ : ByteArray), (⟨#[115, 116, 97]⟩ : ByteArray), (⟨#[97, 100, 105]⟩ : ByteArray), (⟨#[115, 98, 105]⟩ : ByteArray), (⟨#[97, 110, 105]⟩ : ByteArray), (⟨#[111, 114, 105]⟩ : ByteArray), (⟨#[120, 114, 105]⟩ : ByteArray), (⟨#[99, 112, 105]⟩ : ByteArray), (⟨#[116, 97, 120]⟩ : ByteArray), (⟨#[116, 120, 97]⟩ : ByteArray), (⟨#[105, 110, 120]⟩ : ByteArray), (⟨#[100, 101, 120]⟩ : ByteArray), (⟨#[108, 97, 120]⟩ : ByteArray), (⟨#[115, 97, 120]⟩ : ByteArray), (⟨#[98, 110, 101]⟩ : ByteArray), (⟨#[98, 101, 113]⟩ : ByteArray), (⟨#[98, 99, 115]⟩ : ByteArray), (⟨#[106, 109, 112]⟩ : ByteArray), (⟨#[106, 115, 114]⟩ : ByteArray), (⟨#[114, 116, 115]⟩ : ByteArray), (⟨#[112, 104, 97]⟩ : ByteArray), (⟨#[112, 108, 97]⟩ : ByteArray), (⟨#[114, 116, 105]⟩ : ByteArray), (⟨#[115, 101, 105]⟩ : ByteArray), (⟨#[99, 108, 105]⟩ : ByteArray), (⟨#[115, 101, 99]⟩ : ByteArray), (⟨#[99, 108, 99]⟩ : ByteArray), (⟨#[97, 100, 97]⟩ : ByteArray)] : List ByteArray))
set_option maxHeartbeats 8000000 in
set_option maxRecDepth 100000 in
theorem spec_l3Names.calls  (r : List ByteArray) (w : World) (h : spec_l3Names.f  = some r) :
    Calls Tryd.prog 60 #[] w fun e w' => ∃ v0_ : Value, e = .returned (v0_) ∧ Kd.R Kd.string 9 w' w.heap.size (fun _ => True) v0_ r ∧ Below w.heap.size w w' := by
  have HB := Aside0.mk (Below.refl w.heap.size w)
  have H : (some (([(⟨#[110, 111, 112]⟩ : ByteArray), (⟨#[108, 100, 105]⟩ : ByteArray), (⟨#[108, 100, 97]⟩ : ByteArray), (⟨#[115, 116, 97]⟩ : ByteArray), (⟨#[97, 100, 105]⟩ : ByteArray), (⟨#[115, 98, 105]⟩ : ByteArray), (⟨#[97, 110, 105]⟩ : ByteArray), (⟨#[111, 114, 105]⟩ : ByteArray), (⟨#[120, 114, 105]⟩ : ByteArray), (⟨#[99, 112, 105]⟩ : ByteArray), (⟨#[116, 97, 120]⟩ : ByteArray), (⟨#[116, 120, 97]⟩ : ByteArray), (⟨#[105, 110, 120]⟩ : ByteArray), (⟨#[100, 101, 120]⟩ : ByteArray), (⟨#[108, 97, 120]⟩ : ByteArray), (⟨#[115, 97, 120]⟩ : ByteArray), (⟨#[98, 110, 101]⟩ : ByteArray), (⟨#[98, 101, 113]⟩ : ByteArray), (⟨#[98, 99, 115]⟩ : ByteArray), (⟨#[106, 109, 112]⟩ : ByteArray), (⟨#[106, 115, 114]⟩ : ByteArray), (⟨#[114, 116, 115]⟩ : ByteArray), (⟨#[112, 104, 97]⟩ : ByteArray), (⟨#[112, 108, 97]⟩ : ByteArray), (⟨#[114, 116, 105]⟩ : ByteArray), (⟨#[115, 101, 105]⟩ : ByteArray), (⟨#[99, 108, 105]⟩ : ByteArray), (⟨#[115, 101, 99]⟩ : ByteArray), (⟨#[99, 108, 99]⟩ : ByteArray), (⟨#[97, 100, 97]⟩ : ByteArray)] : List ByteArray))) = some r := h
  clear h
  obtain ⟨y336, hy336⟩ : ∃ y_ : List ByteArray, y_ = (([(⟨#[110, 111, 112]⟩ : ByteArray), (⟨#[108, 100, 105]⟩ : ByteArray), (⟨#[108, 100, 97]⟩ : ByteArray), (⟨#[115, 116, 97]⟩ : ByteArray), (⟨#[97, 100, 105]⟩ : ByteArray), (⟨#[115, 98, 105]⟩ : ByteArray), (⟨#[97, 110, 105]⟩ : ByteArray), (⟨#[111, 114, 105]⟩ : ByteArray), (⟨#[120, 114, 105]⟩ : ByteArray), (⟨#[99, 112, 105]⟩ : ByteArray), (⟨#[116, 97, 120]⟩ : ByteArray), (⟨#[116, 120, 97]⟩ : ByteArray), (⟨#[105, 110, 120]⟩ : ByteArray), (⟨#[100, 101, 120]⟩ : ByteArray), (⟨#[108, 97, 120]⟩ : ByteArray), (⟨#[115, 97, 120]⟩ : ByteArray), (⟨#[98, 110, 101]⟩ : ByteArray), (⟨#[98, 101, 113]⟩ : ByteArray), (⟨#[98, 99, 115]⟩ : ByteArray), (⟨#[106, 109, 112]⟩ : ByteArray), (⟨#[106, 115, 114]⟩ : ByteArray), (⟨#[114, 116, 115]⟩ : ByteArray), (⟨#[112, 104, 97]⟩ : ByteArray), (⟨#[112, 108, 97]⟩ : ByteArray), (⟨#[114, 116, 105]⟩ : ByteArray), (⟨#[115, 101, 105]⟩ : ByteArray), (⟨#[99, 108, 105]⟩ : ByteArray), (⟨#[115, 101, 99]⟩ : ByteArray), (⟨#[99, 108, 99]⟩ : ByteArray), (⟨#[97, 100, 97]⟩ : ByteArray)] : List ByteArray)) := ⟨_, rfl⟩
  replace H : (some y336) = some r := by first | (rw [hy336]; with_reducible exact H) | (have H2_ := (Option.bind_some _ _).symm.trans H; rw [hy336]; with_reducible exact H2_) | (have H2_ := (Option.bind_some _ _).symm.trans H; with_reducible exact H2_) | with_reducible exact H | (rw [hy336]; exact H) | exact H
  have Ny336 := Aside0.mk hy336
  clear hy336
  obtain rfl := Option.some.inj H
  go_enter Tryd.func60, Tryd.ntmps60
  go_wp2_with (first | ((with_reducible refine gate_dst (N := 1) rfl ?_); refine Kd.R_lit Kd.string _ 9 ?hg (N := 1) ?hd (xs := ([(⟨#[110, 111, 112]⟩ : ByteArray), (⟨#[108, 100, 105]⟩ : ByteArray), (⟨#[108, 100, 97]⟩ : ByteArray), (⟨#[115, 116, 97]⟩ : ByteArray), (⟨#[97, 100, 105]⟩ : ByteArray), (⟨#[115, 98, 105]⟩ : ByteArray), (⟨#[97, 110, 105]⟩ : ByteArray), (⟨#[111, 114, 105]⟩ : ByteArray), (⟨#[120, 114, 105]⟩ : ByteArray), (⟨#[99, 112, 105]⟩ : ByteArray), (⟨#[116, 97, 120]⟩ : ByteArray), (⟨#[116, 120, 97]⟩ : ByteArray), (⟨#[105, 110, 120]⟩ : ByteArray), (⟨#[100, 101, 120]⟩ : ByteArray), (⟨#[108, 97, 120]⟩ : ByteArray), (⟨#[115, 97, 120]⟩ : ByteArray), (⟨#[98, 110, 101]⟩ : ByteArray), (⟨#[98, 101, 113]⟩ : ByteArray), (⟨#[98, 99, 115]⟩ : ByteArray), (⟨#[106, 109, 112]⟩ : ByteArray), (⟨#[106, 115, 114]⟩ : ByteArray), (⟨#[114, 116, 115]⟩ : ByteArray), (⟨#[112, 104, 97]⟩ : ByteArray), (⟨#[112, 108, 97]⟩ : ByteArray), (⟨#[114, 116, 105]⟩ : ByteArray), (⟨#[115, 101, 105]⟩ : ByteArray), (⟨#[99, 108, 105]⟩ : ByteArray), (⟨#[115, 101, 99]⟩ : ByteArray), (⟨#[99, 108, 99]⟩ : ByteArray), (⟨#[97, 100, 97]⟩ : ByteArray)] : List ByteArray)) (inner := [.string (⟨#[110, 111, 112]⟩ : ByteArray), .string (⟨#[108, 100, 105]⟩ : ByteArray), .string (⟨#[108, 100, 97]⟩ : ByteArray), .string (⟨#[115, 116, 97]⟩ : ByteArray), .string (⟨#[97, 100, 105]⟩ : ByteArray), .string (⟨#[115, 98, 105]⟩ : ByteArray), .string (⟨#[97, 110, 105]⟩ : ByteArray), .string (⟨#[111, 114, 105]⟩ : ByteArray), .string (⟨#[120, 114, 105]⟩ : ByteArray), .string (⟨#[99, 112, 105]⟩ : ByteArray), .string (⟨#[116, 97, 120]⟩ : ByteArray), .string (⟨#[116, 120, 97]⟩ : ByteArray), .string (⟨#[105, 110, 120]⟩ : ByteArray), .string (⟨#[100, 101, 120]⟩ : ByteArray), .string (⟨#[108, 97, 120]⟩ : ByteArray), .string (⟨#[115, 97, 120]⟩ : ByteArray), .string (⟨#[98, 110, 101]⟩ : ByteArray), .string (⟨#[98, 101, 113]⟩ : ByteArray), .string (⟨#[98, 99, 115]⟩ : ByteArray), .string (⟨#[106, 109, 112]⟩ : ByteArray), .string (⟨#[106, 115, 114]⟩ : ByteArray), .string (⟨#[114, 116, 115]⟩ : ByteArray), .string (⟨#[112, 104, 97]⟩ : ByteArray), .string (⟨#[112, 108, 97]⟩ : ByteArray), .string (⟨#[114, 116, 105]⟩ : ByteArray), .string (⟨#[115, 101, 105]⟩ : ByteArray), .string (⟨#[99, 108, 105]⟩ : ByteArray), .string (⟨#[115, 101, 99]⟩ : ByteArray), .string (⟨#[99, 108, 99]⟩ : ByteArray), .string (⟨#[97, 100, 97]⟩ : ByteArray)]) (ok := fun _ => True) (okp := fun _ => True) ?hr ?hp (fun _ hk => hk) trivial (Below.refl _ _) (Nat.le_refl _) (by simp) ?_; (case hd => rfl); (case hg => rfl); (case hr => first | (go_simp; done) | (go_simp; rfl)); (case hp => exact (Reps.one (show Kd.M Kd.string _ _ _ (⟨#[110, 111, 112]⟩ : ByteArray) [.string (⟨#[110, 111, 112]⟩ : ByteArray)] from rfl) (Reps.one (show Kd.M Kd.string _ _ _ (⟨#[108, 100, 105]⟩ : ByteArray) [.string (⟨#[108, 100, 105]⟩ : ByteArray)] from rfl) (Reps.one (show Kd.M Kd.string _ _ _ (⟨#[108, 100, 97]⟩ : ByteArray) [.string (⟨#[108, 100, 97]⟩ : ByteArray)] from rfl) (Reps.one (show Kd.M Kd.string _ _ _ (⟨#[115, 116, 97]⟩ : ByteArray) [.string (⟨#[115, 116, 97]⟩ : ByteArray)] from rfl) (Reps.one (show Kd.M Kd.string _ _ _ (⟨#[97, 100, 105]⟩ : ByteArray) [.string (⟨#[97, 100, 105]⟩ : ByteArray)] from rfl) (Reps.one (show Kd.M Kd.string _ _ _ (⟨#[115, 98, 105]⟩ : ByteArray) [.string (⟨#[115, 98, 105]⟩ : ByteArray)] from rfl) (Reps.one (show Kd.M Kd.string _ _ _ (⟨#[97, 110, 105]⟩ : ByteArray) [.string (⟨#[97, 110, 105]⟩ : ByteArray)] from rfl) (Reps.one (show Kd.M Kd.string _ _ _ (⟨#[111, 114, 105]⟩ : ByteArray) [.string (⟨#[111, 114, 105]⟩ : ByteArray)] from rfl) (Reps.one (show Kd.M Kd.string _ _ _ (⟨#[120, 114, 105]⟩ : ByteArray) [.string (⟨#[120, 114, 105]⟩ : ByteArray)] from rfl) (Reps.one (show Kd.M Kd.string _ _ _ (⟨#[99, 112, 105]⟩ : ByteArray) [.string (⟨#[99, 112, 105]⟩ : ByteArray)] from rfl) (Reps.one (show Kd.M Kd.string _ _ _ (⟨#[116, 97, 120]⟩ : ByteArray) [.string (⟨#[116, 97, 120]⟩ : ByteArray)] from rfl) (Reps.one (show Kd.M Kd.string _ _ _ (⟨#[116, 120, 97]⟩ : ByteArray) [.string (⟨#[116, 120, 97]⟩ : ByteArray)] from rfl) (Reps.one (show Kd.M Kd.string _ _ _ (⟨#[105, 110, 120]⟩ : ByteArray) [.string (⟨#[105, 110, 120]⟩ : ByteArray)] from rfl) (Reps.one (show Kd.M Kd.string _ _ _ (⟨#[100, 101, 120]⟩ : ByteArray) [.string (⟨#[100, 101, 120]⟩ : ByteArray)] from rfl) (Reps.one (show Kd.M Kd.string _ _ _ (⟨#[108, 97, 120]⟩ : ByteArray) [.string (⟨#[108, 97, 120]⟩ : ByteArray)] from rfl) (Reps.one (show Kd.M Kd.string _ _ _ (⟨#[115, 97, 120]⟩ : ByteArray) [.string (⟨#[115, 97, 120]⟩ : ByteArray)] from rfl) (Reps.one (show Kd.M Kd.string _ _ _ (⟨#[98, 110, 101]⟩ : ByteArray) [.string (⟨#[98, 110, 101]⟩ : ByteArray)] from rfl) (Reps.one (show Kd.M Kd.string _ _ _ (⟨#[98, 101, 113]⟩ : ByteArray) [.string (⟨#[98, 101, 113]⟩ : ByteArray)] from rfl) (Reps.one (show Kd.M Kd.string _ _ _ (⟨#[98, 99, 115]⟩ : ByteArray) [.string (⟨#[98, 99, 115]⟩ : ByteArray)] from rfl) (Reps.one (show Kd.M Kd.string _ _ _ (⟨#[106, 109, 112]⟩ : ByteArray) [.string (⟨#[106, 109, 112]⟩ : ByteArray)] from rfl) (Reps.one (show Kd.M Kd.string _ _ _ (⟨#[106, 115, 114]⟩ : ByteArray) [.string (⟨#[106, 115, 114]⟩ : ByteArray)] from rfl) (Reps.one (show Kd.M Kd.string _ _ _ (⟨#[114, 116, 115]⟩ : ByteArray) [.string (⟨#[114, 116, 115]⟩ : ByteArray)] from rfl) (Reps.one (show Kd.M Kd.string _ _ _ (⟨#[112, 104, 97]⟩ : ByteArray) [.string (⟨#[112, 104, 97]⟩ : ByteArray)] from rfl) (Reps.one (show Kd.M Kd.string _ _ _ (⟨#[112, 108, 97]⟩ : ByteArray) [.string (⟨#[112, 108, 97]⟩ : ByteArray)] from rfl) (Reps.one (show Kd.M Kd.string _ _ _ (⟨#[114, 116, 105]⟩ : ByteArray) [.string (⟨#[114, 116, 105]⟩ : ByteArray)] from rfl) (Reps.one (show Kd.M Kd.string _ _ _ (⟨#[115, 101, 105]⟩ : ByteArray) [.string (⟨#[115, 101, 105]⟩ : ByteArray)] from rfl) (Reps.one (show Kd.M Kd.string _ _ _ (⟨#[99, 108, 105]⟩ : ByteArray) [.string (⟨#[99, 108, 105]⟩ : ByteArray)] from rfl) (Reps.one (show Kd.M Kd.string _ _ _ (⟨#[115, 101, 99]⟩ : ByteArray) [.string (⟨#[115, 101, 99]⟩ : ByteArray)] from rfl) (Reps.one (show Kd.M Kd.string _ _ _ (⟨#[99, 108, 99]⟩ : ByteArray) [.string (⟨#[99, 108, 99]⟩ : ByteArray)] from rfl) (Reps.one (show Kd.M Kd.string _ _ _ (⟨#[97, 100, 97]⟩ : ByteArray) [.string (⟨#[97, 100, 97]⟩ : ByteArray)] from rfl) (Reps.none _ _)))))))))))))))))))))))))))))))); intro v337 w1 ho2 hb hg_ hnew_; clear hg_ hnew_; (first | rw [← Ny336.out] at ho2 | (simp only [Int.reduceToNat] at ho2; rw [← Ny336.out] at ho2)); have n0_ := Aside0.mk (Kd.R_lower ho2 (below_size (by repeat (first | (with_reducible first | exact HB.out | apply below_alloc | apply pw_below_drewN | apply below_drew1) | exact HB.out)))); have n1_ := Aside0.mk (below_step (by repeat (first | (with_reducible first | exact HB.out | apply below_alloc | apply pw_below_drewN | apply below_drew1) | exact HB.out)) hb); clear HB; have HO338 := n0_; have HB := n1_; clear n0_ n1_; clear hb ho2))
  go_ret
  exact ⟨_, by first | rfl | (simp [errW_none, errW_some] <;> rfl) | (simp [*, errW_none, errW_some] <;> rfl), by (with_reducible repeat (first | apply Kd.R_alloc | apply Kd.R_drewN | apply Kd.R_drew)); exact HO338.out, by repeat (first | (with_reducible first | exact HB.out | apply below_alloc | apply pw_below_drewN | apply below_drew1) | exact HB.out)⟩

/-! ### spec_OpName: function 44 -/
def spec_OpName.f (a0 : Int) : Option (ByteArray) := (spec_l1In.f a0 0 29).bind fun t339 => (if t339 = true then ((spec_l3Names.f).bind fun t340 => (if 0 ≤ a0 then (if a0 < (t340.length : Int) then (some (rdOf ByteArray.empty t340 a0)) else (none)) else (none))) else (some (⟨#[]⟩ : ByteArray)))
set_option maxHeartbeats 8000000 in
set_option maxRecDepth 100000 in
theorem spec_OpName.calls (a0 : Int) (r : ByteArray) (w : World) (h : spec_OpName.f a0 = some r) :
    Calls Tryd.prog 44 #[.int .i64 a0] w fun e w' => e = .returned (.string r) ∧ Below w.heap.size w w' := by
  have HB := Aside0.mk (Below.refl w.heap.size w)
  have H : ((spec_l1In.f a0 0 29).bind fun t339 => (if t339 = true then ((spec_l3Names.f).bind fun t340 => (if 0 ≤ a0 then (if a0 < (t340.length : Int) then (some (rdOf ByteArray.empty t340 a0)) else (none)) else (none))) else (some (⟨#[]⟩ : ByteArray)))) = some r := h
  clear h
  replace H := Option.bind_eq_some_iff.mp H
  obtain ⟨t339, A20, H⟩ := H
  replace H : (if t339 = true then ((spec_l3Names.f).bind fun t340 => (if 0 ≤ a0 then (if a0 < (t340.length : Int) then (some (rdOf ByteArray.empty t340 a0)) else (none)) else (none))) else (some (⟨#[]⟩ : ByteArray))) = some r := H
  have A2 := Aside0.mk A20
  clear A20
  by_cases c3 : t339 = true
  · subst c3
    have H1 : ((spec_l3Names.f).bind fun t340 => (if 0 ≤ a0 then (if a0 < (t340.length : Int) then (some (rdOf ByteArray.empty t340 a0)) else (none)) else (none))) = some r := by rw [if_pos rfl] at H; exact H
    clear H
    have H := H1
    clear H1
    replace H := Option.bind_eq_some_iff.mp H
    obtain ⟨t340, A40, H⟩ := H
    replace H : (if 0 ≤ a0 then (if a0 < (t340.length : Int) then (some (rdOf ByteArray.empty t340 a0)) else (none)) else (none)) = some r := H
    have A4 := Aside0.mk A40
    clear A40
    by_cases c5 : 0 ≤ a0
    · rw [if_pos c5] at H
      have c5b0 : decide (0 ≤ a0) = true := decide_eq_true c5
      clear c5
      by_cases c6 : a0 < (t340.length : Int)
      · rw [if_pos c6] at H
        have c6b0 : decide (a0 < (t340.length : Int)) = true := decide_eq_true c6
        clear c6
        obtain rfl := Option.some.inj H
        go_enter Tryd.func44, Tryd.ntmps44
        go_wp2_with (first | ((with_reducible refine gate_callee (f := 40) rfl ?_); refine goesL_ (some 4) rfl rfl Tryd.func40 (by kernel_rfl) rfl #[.int .i64 a0, .int .i64 0, .int .i64 29] rfl (by (try simp only [List.map_toArray, List.map_cons, List.map_nil]); first | done | rfl | (simp only [List.length_drop, List.length_take]; rfl)) ?_; (with_reducible refine (spec_l1In.calls a0 0 29 true _ A2.out).mono ?_); rintro e w' ⟨rfl, ⟨nd, rfl⟩⟩; refine ⟨_, rfl, ?_⟩) | ((with_reducible refine gate_callee (f := 60) rfl ?_); refine goesL_ (some 6) rfl rfl Tryd.func60 (by kernel_rfl) rfl #[] rfl (by (try simp only [List.map_toArray, List.map_cons, List.map_nil]); first | done | rfl | (simp only [List.length_drop, List.length_take]; rfl)) ?_; (with_reducible refine (spec_l3Names.calls  t340 _ A4.out).mono ?_); rintro e w7 ⟨v341, rfl, ho0, hb⟩; refine ⟨_, rfl, ?_⟩; have n0_ := Aside0.mk (Kd.R_lower ho0 (below_size (by repeat (first | (with_reducible first | exact HB.out | apply below_alloc | apply pw_below_drewN | apply below_drew1) | exact HB.out)))); have n1_ := Aside0.mk (below_step (by repeat (first | (with_reducible first | exact HB.out | apply below_alloc | apply pw_below_drewN | apply below_drew1) | exact HB.out)) hb); clear HB; have HO342 := n0_; have HB := n1_; clear n0_ n1_; (try clear hb); (try clear hb2); (try clear hk); (try clear hi); (try clear ho0); obtain ⟨Ao8, co8, eo8⟩ := Kd.R_slice HO342.out; subst eo8; have p343 : 0 ≤ (a0 : Int) := of_decide_eq_true (by first | (with_reducible assumption) | assumption); have q343 : a0 < (t340.length : Int) := of_decide_eq_true (by first | (with_reducible assumption) | assumption); obtain ⟨ad343, e343, hx343_0⟩ := Kd.at_string (Kd.R_reads' HO342.out).2.2 a0 p343 q343; cases e343; replace p343 := eq_true p343; replace q343 := eq_true q343))
        go_ret
        exact ⟨by first | rfl | (simp [errW_none, errW_some] <;> rfl) | (simp [*, errW_none, errW_some] <;> rfl), by repeat (first | (with_reducible first | exact HB.out | apply below_alloc | apply pw_below_drewN | apply below_drew1) | exact HB.out)⟩
      · rw [if_neg c6] at H
        exact absurd H (by simp)
    · rw [if_neg c5] at H
      exact absurd H (by simp)
  · replace c3 := Bool.eq_false_iff.mpr c3
    subst c3
    have H1 : (some (⟨#[]⟩ : ByteArray)) = some r := by rw [if_neg (show ¬ (false = true) by decide)] at H; exact H
    clear H
    have H := H1
    clear H1
    obtain rfl := Option.some.inj H
    go_enter Tryd.func44, Tryd.ntmps44
    go_wp2_with (first | ((with_reducible refine gate_callee (f := 40) rfl ?_); refine goesL_ (some 4) rfl rfl Tryd.func40 (by kernel_rfl) rfl #[.int .i64 a0, .int .i64 0, .int .i64 29] rfl (by (try simp only [List.map_toArray, List.map_cons, List.map_nil]); first | done | rfl | (simp only [List.length_drop, List.length_take]; rfl)) ?_; (with_reducible refine (spec_l1In.calls a0 0 29 false _ A2.out).mono ?_); rintro e w' ⟨rfl, ⟨nd, rfl⟩⟩; refine ⟨_, rfl, ?_⟩))
    go_ret
    exact ⟨by first | rfl | (simp [errW_none, errW_some] <;> rfl) | (simp [*, errW_none, errW_some] <;> rfl), by repeat (first | (with_reducible first | exact HB.out | apply below_alloc | apply pw_below_drewN | apply below_drew1) | exact HB.out)⟩

/-! ### spec_Join: function 45 -/
def spec_Join.f (a0 : Int) (a1 : Int) : Option (Int) := (spec_Byte.f a0).bind fun t344 => ((spec_Byte.f a1).bind fun t345 => (some (wrap64 (t344 + (wrap64 (256 * t345))))))
set_option maxHeartbeats 8000000 in
set_option maxRecDepth 100000 in
theorem spec_Join.calls (a0 : Int) (a1 : Int) (r : Int) (w : World) (h : spec_Join.f a0 a1 = some r) :
    Calls Tryd.prog 45 #[.int .i64 a0, .int .i64 a1] w fun e w' => e = .returned (.int .i64 r) ∧ Drawn0 w w' := by
  have H : ((spec_Byte.f a0).bind fun t344 => ((spec_Byte.f a1).bind fun t345 => (some (wrap64 (t344 + (wrap64 (256 * t345))))))) = some r := h
  clear h
  replace H := Option.bind_eq_some_iff.mp H
  obtain ⟨t344, A30, H⟩ := H
  replace H : ((spec_Byte.f a1).bind fun t345 => (some (wrap64 (t344 + (wrap64 (256 * t345)))))) = some r := H
  have A3 := Aside0.mk A30
  clear A30
  replace H := Option.bind_eq_some_iff.mp H
  obtain ⟨t345, A40, H⟩ := H
  replace H : (some (wrap64 (t344 + (wrap64 (256 * t345))))) = some r := H
  have A4 := Aside0.mk A40
  clear A40
  obtain rfl := Option.some.inj H
  go_enter Tryd.func45, Tryd.ntmps45
  go_wp2_with (first | ((with_reducible refine gate_callee (f := 24) rfl ?_); refine goesL_ (some 6) rfl rfl Tryd.func24 (by kernel_rfl) rfl #[.int .i64 a0] rfl (by (try simp only [List.map_toArray, List.map_cons, List.map_nil]); first | done | rfl | (simp only [List.length_drop, List.length_take]; rfl)) ?_; (with_reducible refine (spec_Byte.calls a0 t344 _ A3.out).mono ?_); rintro e w' ⟨rfl, ⟨nd, rfl⟩⟩; refine ⟨_, rfl, ?_⟩) | ((with_reducible refine gate_callee (f := 24) rfl ?_); refine goesL_ (some 8) rfl rfl Tryd.func24 (by kernel_rfl) rfl #[.int .i64 a1] rfl (by (try simp only [List.map_toArray, List.map_cons, List.map_nil]); first | done | rfl | (simp only [List.length_drop, List.length_take]; rfl)) ?_; (with_reducible refine (spec_Byte.calls a1 t345 _ A4.out).mono ?_); rintro e w' ⟨rfl, ⟨nd, rfl⟩⟩; refine ⟨_, rfl, ?_⟩))
  go_ret
  exact ⟨by first | rfl | (simp; done) | (simp [*]; done), by repeat (first | exact Drawn0.refl _ | apply Drawn0.step)⟩

/-! ### spec_LineOf: function 18 -/
def spec_LineOf.f (k : Nat) (l0 : List Int) (a1 : Int) : Option (ByteArray × Int) := (spec_l1In.f a1 0 (wrap64 ((l0.length : Int) - 1))).bind fun t346 => (if t346 = true then ((spec_l4At.f l0 a1).bind fun t347 => ((spec_OpLen.f t347).bind fun t348 => (if t347 ≥ 30 then ((spec_l4Digits.f k t347).bind fun t349 => (if 5 + t349.size ≤ 9223372036854775807 then (some ((⟨#[98, 121, 116, 101, 32]⟩ : ByteArray) ++ t349, 1)) else (none))) else (if t348 = 1 then ((spec_OpName.f t347).bind fun t350 => (some (t350, 1))) else (if t348 = 2 then ((spec_OpName.f t347).bind fun t351 => (if t351.size + 1 ≤ 9223372036854775807 then ((spec_l4At.f l0 (wrap64 (a1 + 1))).bind fun t352 => ((spec_l4Digits.f k t352).bind fun t353 => (if (t351 ++ (⟨#[32]⟩ : ByteArray)).size + t353.size ≤ 9223372036854775807 then (some ((t351 ++ (⟨#[32]⟩ : ByteArray)) ++ t353, 2)) else (none)))) else (none))) else ((spec_OpName.f t347).bind fun t354 => (if t354.size + 1 ≤ 9223372036854775807 then ((spec_l4At.f l0 (wrap64 (a1 + 1))).bind fun t355 => ((spec_l4At.f l0 (wrap64 (a1 + 2))).bind fun t356 => ((spec_Join.f t355 t356).bind fun t357 => ((spec_l4Digits.f k t357).bind fun t358 => (if (t354 ++ (⟨#[32]⟩ : ByteArray)).size + t358.size ≤ 9223372036854775807 then (some ((t354 ++ (⟨#[32]⟩ : ByteArray)) ++ t358, 3)) else (none)))))) else (none)))))))) else (some ((⟨#[]⟩ : ByteArray), 0)))
set_option maxHeartbeats 8000000 in
set_option maxRecDepth 100000 in
theorem spec_LineOf.calls (k : Nat) (A0 : Option Addr) (c0 : Nat) (l0 : List Int) (a1 : Int) (r1 : ByteArray) (r2 : Int) (w : World) (hr0 : Kd.C (Kd.int .i64) w A0 l0.length l0) (hc0 : l0.length ≤ c0) (h : spec_LineOf.f k l0 a1 = some (r1, r2)) :
    Calls Tryd.prog 18 #[.slice A0 l0.length c0, .int .i64 a1] w fun e w' => e = .returned (.tuple #[.string r1, .int .i64 r2]) ∧ Below w.heap.size w w' := by
  have HR0 := Aside0.mk hr0
  have HC0 := Aside0.mk hc0
  clear hr0 hc0
  have HB := Aside0.mk (Below.refl w.heap.size w)
  have H : ((spec_l1In.f a1 0 (wrap64 ((l0.length : Int) - 1))).bind fun t346 => (if t346 = true then ((spec_l4At.f l0 a1).bind fun t347 => ((spec_OpLen.f t347).bind fun t348 => (if t347 ≥ 30 then ((spec_l4Digits.f k t347).bind fun t349 => (if 5 + t349.size ≤ 9223372036854775807 then (some ((⟨#[98, 121, 116, 101, 32]⟩ : ByteArray) ++ t349, 1)) else (none))) else (if t348 = 1 then ((spec_OpName.f t347).bind fun t350 => (some (t350, 1))) else (if t348 = 2 then ((spec_OpName.f t347).bind fun t351 => (if t351.size + 1 ≤ 9223372036854775807 then ((spec_l4At.f l0 (wrap64 (a1 + 1))).bind fun t352 => ((spec_l4Digits.f k t352).bind fun t353 => (if (t351 ++ (⟨#[32]⟩ : ByteArray)).size + t353.size ≤ 9223372036854775807 then (some ((t351 ++ (⟨#[32]⟩ : ByteArray)) ++ t353, 2)) else (none)))) else (none))) else ((spec_OpName.f t347).bind fun t354 => (if t354.size + 1 ≤ 9223372036854775807 then ((spec_l4At.f l0 (wrap64 (a1 + 1))).bind fun t355 => ((spec_l4At.f l0 (wrap64 (a1 + 2))).bind fun t356 => ((spec_Join.f t355 t356).bind fun t357 => ((spec_l4Digits.f k t357).bind fun t358 => (if (t354 ++ (⟨#[32]⟩ : ByteArray)).size + t358.size ≤ 9223372036854775807 then (some ((t354 ++ (⟨#[32]⟩ : ByteArray)) ++ t358, 3)) else (none)))))) else (none)))))))) else (some ((⟨#[]⟩ : ByteArray), 0)))) = some (r1, r2) := h
  clear h
  replace H := Option.bind_eq_some_iff.mp H
  obtain ⟨t346, A30, H⟩ := H
  replace H : (if t346 = true then ((spec_l4At.f l0 a1).bind fun t347 => ((spec_OpLen.f t347).bind fun t348 => (if t347 ≥ 30 then ((spec_l4Digits.f k t347).bind fun t349 => (if 5 + t349.size ≤ 9223372036854775807 then (some ((⟨#[98, 121, 116, 101, 32]⟩ : ByteArray) ++ t349, 1)) else (none))) else (if t348 = 1 then ((spec_OpName.f t347).bind fun t350 => (some (t350, 1))) else (if t348 = 2 then ((spec_OpName.f t347).bind fun t351 => (if t351.size + 1 ≤ 9223372036854775807 then ((spec_l4At.f l0 (wrap64 (a1 + 1))).bind fun t352 => ((spec_l4Digits.f k t352).bind fun t353 => (if (t351 ++ (⟨#[32]⟩ : ByteArray)).size + t353.size ≤ 9223372036854775807 then (some ((t351 ++ (⟨#[32]⟩ : ByteArray)) ++ t353, 2)) else (none)))) else (none))) else ((spec_OpName.f t347).bind fun t354 => (if t354.size + 1 ≤ 9223372036854775807 then ((spec_l4At.f l0 (wrap64 (a1 + 1))).bind fun t355 => ((spec_l4At.f l0 (wrap64 (a1 + 2))).bind fun t356 => ((spec_Join.f t355 t356).bind fun t357 => ((spec_l4Digits.f k t357).bind fun t358 => (if (t354 ++ (⟨#[32]⟩ : ByteArray)).size + t358.size ≤ 9223372036854775807 then (some ((t354 ++ (⟨#[32]⟩ : ByteArray)) ++ t358, 3)) else (none)))))) else (none)))))))) else (some ((⟨#[]⟩ : ByteArray), 0))) = some (r1, r2) := H
  have A3 := Aside0.mk A30
  clear A30
  by_cases c4 : t346 = true
  · subst c4
    have H1 : ((spec_l4At.f l0 a1).bind fun t347 => ((spec_OpLen.f t347).bind fun t348 => (if t347 ≥ 30 then ((spec_l4Digits.f k t347).bind fun t349 => (if 5 + t349.size ≤ 9223372036854775807 then (some ((⟨#[98, 121, 116, 101, 32]⟩ : ByteArray) ++ t349, 1)) else (none))) else (if t348 = 1 then ((spec_OpName.f t347).bind fun t350 => (some (t350, 1))) else (if t348 = 2 then ((spec_OpName.f t347).bind fun t351 => (if t351.size + 1 ≤ 9223372036854775807 then ((spec_l4At.f l0 (wrap64 (a1 + 1))).bind fun t352 => ((spec_l4Digits.f k t352).bind fun t353 => (if (t351 ++ (⟨#[32]⟩ : ByteArray)).size + t353.size ≤ 9223372036854775807 then (some ((t351 ++ (⟨#[32]⟩ : ByteArray)) ++ t353, 2)) else (none)))) else (none))) else ((spec_OpName.f t347).bind fun t354 => (if t354.size + 1 ≤ 9223372036854775807 then ((spec_l4At.f l0 (wrap64 (a1 + 1))).bind fun t355 => ((spec_l4At.f l0 (wrap64 (a1 + 2))).bind fun t356 => ((spec_Join.f t355 t356).bind fun t357 => ((spec_l4Digits.f k t357).bind fun t358 => (if (t354 ++ (⟨#[32]⟩ : ByteArray)).size + t358.size ≤ 9223372036854775807 then (some ((t354 ++ (⟨#[32]⟩ : ByteArray)) ++ t358, 3)) else (none)))))) else (none)))))))) = some (r1, r2) := by rw [if_pos rfl] at H; exact H
    clear H
    have H := H1
    clear H1
    replace H := Option.bind_eq_some_iff.mp H
    obtain ⟨t347, A50, H⟩ := H
    replace H : ((spec_OpLen.f t347).bind fun t348 => (if t347 ≥ 30 then ((spec_l4Digits.f k t347).bind fun t349 => (if 5 + t349.size ≤ 9223372036854775807 then (some ((⟨#[98, 121, 116, 101, 32]⟩ : ByteArray) ++ t349, 1)) else (none))) else (if t348 = 1 then ((spec_OpName.f t347).bind fun t350 => (some (t350, 1))) else (if t348 = 2 then ((spec_OpName.f t347).bind fun t351 => (if t351.size + 1 ≤ 9223372036854775807 then ((spec_l4At.f l0 (wrap64 (a1 + 1))).bind fun t352 => ((spec_l4Digits.f k t352).bind fun t353 => (if (t351 ++ (⟨#[32]⟩ : ByteArray)).size + t353.size ≤ 9223372036854775807 then (some ((t351 ++ (⟨#[32]⟩ : ByteArray)) ++ t353, 2)) else (none)))) else (none))) else ((spec_OpName.f t347).bind fun t354 => (if t354.size + 1 ≤ 9223372036854775807 then ((spec_l4At.f l0 (wrap64 (a1 + 1))).bind fun t355 => ((spec_l4At.f l0 (wrap64 (a1 + 2))).bind fun t356 => ((spec_Join.f t355 t356).bind fun t357 => ((spec_l4Digits.f k t357).bind fun t358 => (if (t354 ++ (⟨#[32]⟩ : ByteArray)).size + t358.size ≤ 9223372036854775807 then (some ((t354 ++ (⟨#[32]⟩ : ByteArray)) ++ t358, 3)) else (none)))))) else (none))))))) = some (r1, r2) := H
    have A5 := Aside0.mk A50
    clear A50
    replace H := Option.bind_eq_some_iff.mp H
    obtain ⟨t348, A60, H⟩ := H
    replace H : (if t347 ≥ 30 then ((spec_l4Digits.f k t347).bind fun t349 => (if 5 + t349.size ≤ 9223372036854775807 then (some ((⟨#[98, 121, 116, 101, 32]⟩ : ByteArray) ++ t349, 1)) else (none))) else (if t348 = 1 then ((spec_OpName.f t347).bind fun t350 => (some (t350, 1))) else (if t348 = 2 then ((spec_OpName.f t347).bind fun t351 => (if t351.size + 1 ≤ 9223372036854775807 then ((spec_l4At.f l0 (wrap64 (a1 + 1))).bind fun t352 => ((spec_l4Digits.f k t352).bind fun t353 => (if (t351 ++ (⟨#[32]⟩ : ByteArray)).size + t353.size ≤ 9223372036854775807 then (some ((t351 ++ (⟨#[32]⟩ : ByteArray)) ++ t353, 2)) else (none)))) else (none))) else ((spec_OpName.f t347).bind fun t354 => (if t354.size + 1 ≤ 9223372036854775807 then ((spec_l4At.f l0 (wrap64 (a1 + 1))).bind fun t355 => ((spec_l4At.f l0 (wrap64 (a1 + 2))).bind fun t356 => ((spec_Join.f t355 t356).bind fun t357 => ((spec_l4Digits.f k t357).bind fun t358 => (if (t354 ++ (⟨#[32]⟩ : ByteArray)).size + t358.size ≤ 9223372036854775807 then (some ((t354 ++ (⟨#[32]⟩ : ByteArray)) ++ t358, 3)) else (none)))))) else (none)))))) = some (r1, r2) := H
    have A6 := Aside0.mk A60
    clear A60
    by_cases c7 : t347 ≥ 30
    · rw [if_pos c7] at H
      have c7b0 : decide (30 ≤ t347) = true := decide_eq_true c7
      clear c7
      replace H := Option.bind_eq_some_iff.mp H
      obtain ⟨t349, A80, H⟩ := H
      replace H : (if 5 + t349.size ≤ 9223372036854775807 then (some ((⟨#[98, 121, 116, 101, 32]⟩ : ByteArray) ++ t349, 1)) else (none)) = some (r1, r2) := H
      have A8 := Aside0.mk A80
      clear A80
      by_cases c9 : 5 + t349.size ≤ 9223372036854775807
      · rw [if_pos c9] at H
        have c9b0 := eq_true c9
        have c9b1 : decide (5 + t349.size ≤ 9223372036854775807) = true := decide_eq_true c9
        try have c9b2 : (9223372036854775807 < 5 + t349.size) = False := eq_false (Nat.not_lt.2 c9)
        simp only [Option.some.injEq, Prod.mk.injEq] at H
        obtain ⟨rfl, rfl⟩ := H
        go_enter Tryd.func18, Tryd.ntmps18
        go_wp2_with (first | ((with_reducible refine gate_callee (f := 40) rfl ?_); refine goesL_ (some 12) rfl rfl Tryd.func40 (by kernel_rfl) rfl #[.int .i64 a1, .int .i64 0, .int .i64 (wrap64 ((l0.length : Int) - 1))] rfl (by (try simp only [List.map_toArray, List.map_cons, List.map_nil]); first | done | rfl | (simp only [List.length_drop, List.length_take]; rfl)) ?_; (with_reducible refine (spec_l1In.calls a1 0 (wrap64 ((l0.length : Int) - 1)) true _ A3.out).mono ?_); rintro e w' ⟨rfl, ⟨nd, rfl⟩⟩; refine ⟨_, rfl, ?_⟩) | ((with_reducible refine gate_callee (f := 41) rfl ?_); refine goesL_ (some 16) rfl rfl Tryd.func41 (by kernel_rfl) rfl #[.slice A0 l0.length c0, .int .i64 a1] rfl (by (try simp only [List.map_toArray, List.map_cons, List.map_nil]); first | done | rfl | (simp only [List.length_drop, List.length_take]; rfl)) ?_; (with_reducible refine (spec_l4At.calls _ _ l0 a1 t347 _ ?side1 ?side2 A5.out).mono ?_); (case side1 => repeat (first | exact HR0.out | (with_reducible refine Kd.C_alloc ?_ _) | (with_reducible refine Kd.C_drewN ?_ _) | (with_reducible refine Kd.C_drew ?_))); (case side2 => exact HC0.out); rintro e w' ⟨rfl, ⟨nd, rfl⟩⟩; refine ⟨_, rfl, ?_⟩) | ((with_reducible refine gate_callee (f := 42) rfl ?_); refine goesL_ (some 18) rfl rfl Tryd.func42 (by kernel_rfl) rfl #[.int .i64 t347] rfl (by (try simp only [List.map_toArray, List.map_cons, List.map_nil]); first | done | rfl | (simp only [List.length_drop, List.length_take]; rfl)) ?_; (with_reducible refine (spec_OpLen.calls t347 t348 _ A6.out).mono ?_); rintro e w10 ⟨rfl, hb⟩; refine ⟨_, rfl, ?_⟩; have n0_ := Aside0.mk (below_step (by repeat (first | (with_reducible first | exact HB.out | apply below_alloc | apply pw_below_drewN | apply below_drew1) | exact HB.out)) hb); clear HB; have HB := n0_; clear n0_; (try clear hb); (try clear hb2); (try clear hk); (try clear hi)) | ((with_reducible refine gate_callee (f := 43) rfl ?_); refine goesL_ (some 23) rfl rfl Tryd.func43 (by kernel_rfl) rfl #[.int .i64 t347] rfl (by (try simp only [List.map_toArray, List.map_cons, List.map_nil]); first | done | rfl | (simp only [List.length_drop, List.length_take]; rfl)) ?_; (with_reducible refine (spec_l4Digits.calls k t347 t349 _ A8.out).mono ?_); rintro e w11 ⟨rfl, hb⟩; refine ⟨_, rfl, ?_⟩; have n0_ := Aside0.mk (below_step (by repeat (first | (with_reducible first | exact HB.out | apply below_alloc | apply pw_below_drewN | apply below_drew1) | exact HB.out)) hb); clear HB; have HB := n0_; clear n0_; (try clear hb); (try clear hb2); (try clear hk); (try clear hi)))
        go_ret2
        exact ⟨by first | rfl | (simp [errW_none, errW_some] <;> rfl) | (simp [*, errW_none, errW_some] <;> rfl), by repeat (first | (with_reducible first | exact HB.out | apply below_alloc | apply pw_below_drewN | apply below_drew1) | exact HB.out)⟩
      · rw [if_neg c9] at H
        exact absurd H (by simp)
    · rw [if_neg c7] at H
      have c7b0 : decide (30 ≤ t347) = false := decide_eq_false c7
      clear c7
      by_cases c12 : t348 = 1
      · rw [if_pos c12] at H
        have c12b0 : (t348 == 1) = true := beq_iff_eq.mpr c12
        have c12b1 : (t348 != 1) = false := bne_eq_false_iff_eq.mpr c12
        clear c12
        replace H := Option.bind_eq_some_iff.mp H
        obtain ⟨t350, A130, H⟩ := H
        replace H : (some (t350, 1)) = some (r1, r2) := H
        have A13 := Aside0.mk A130
        clear A130
        simp only [Option.some.injEq, Prod.mk.injEq] at H
        obtain ⟨rfl, rfl⟩ := H
        go_enter Tryd.func18, Tryd.ntmps18
        go_wp2_with (first | ((with_reducible refine gate_callee (f := 40) rfl ?_); refine goesL_ (some 12) rfl rfl Tryd.func40 (by kernel_rfl) rfl #[.int .i64 a1, .int .i64 0, .int .i64 (wrap64 ((l0.length : Int) - 1))] rfl (by (try simp only [List.map_toArray, List.map_cons, List.map_nil]); first | done | rfl | (simp only [List.length_drop, List.length_take]; rfl)) ?_; (with_reducible refine (spec_l1In.calls a1 0 (wrap64 ((l0.length : Int) - 1)) true _ A3.out).mono ?_); rintro e w' ⟨rfl, ⟨nd, rfl⟩⟩; refine ⟨_, rfl, ?_⟩) | ((with_reducible refine gate_callee (f := 41) rfl ?_); refine goesL_ (some 16) rfl rfl Tryd.func41 (by kernel_rfl) rfl #[.slice A0 l0.length c0, .int .i64 a1] rfl (by (try simp only [List.map_toArray, List.map_cons, List.map_nil]); first | done | rfl | (simp only [List.length_drop, List.length_take]; rfl)) ?_; (with_reducible refine (spec_l4At.calls _ _ l0 a1 t347 _ ?side1 ?side2 A5.out).mono ?_); (case side1 => repeat (first | exact HR0.out | (with_reducible refine Kd.C_alloc ?_ _) | (with_reducible refine Kd.C_drewN ?_ _) | (with_reducible refine Kd.C_drew ?_))); (case side2 => exact HC0.out); rintro e w' ⟨rfl, ⟨nd, rfl⟩⟩; refine ⟨_, rfl, ?_⟩) | ((with_reducible refine gate_callee (f := 42) rfl ?_); refine goesL_ (some 18) rfl rfl Tryd.func42 (by kernel_rfl) rfl #[.int .i64 t347] rfl (by (try simp only [List.map_toArray, List.map_cons, List.map_nil]); first | done | rfl | (simp only [List.length_drop, List.length_take]; rfl)) ?_; (with_reducible refine (spec_OpLen.calls t347 t348 _ A6.out).mono ?_); rintro e w14 ⟨rfl, hb⟩; refine ⟨_, rfl, ?_⟩; have n0_ := Aside0.mk (below_step (by repeat (first | (with_reducible first | exact HB.out | apply below_alloc | apply pw_below_drewN | apply below_drew1) | exact HB.out)) hb); clear HB; have HB := n0_; clear n0_; (try clear hb); (try clear hb2); (try clear hk); (try clear hi)) | ((with_reducible refine gate_callee (f := 44) rfl ?_); refine goesL_ (some 29) rfl rfl Tryd.func44 (by kernel_rfl) rfl #[.int .i64 t347] rfl (by (try simp only [List.map_toArray, List.map_cons, List.map_nil]); first | done | rfl | (simp only [List.length_drop, List.length_take]; rfl)) ?_; (with_reducible refine (spec_OpName.calls t347 t350 _ A13.out).mono ?_); rintro e w15 ⟨rfl, hb⟩; refine ⟨_, rfl, ?_⟩; have n0_ := Aside0.mk (below_step (by repeat (first | (with_reducible first | exact HB.out | apply below_alloc | apply pw_below_drewN | apply below_drew1) | exact HB.out)) hb); clear HB; have HB := n0_; clear n0_; (try clear hb); (try clear hb2); (try clear hk); (try clear hi)))
        go_ret2
        exact ⟨by first | rfl | (simp [errW_none, errW_some] <;> rfl) | (simp [*, errW_none, errW_some] <;> rfl), by repeat (first | (with_reducible first | exact HB.out | apply below_alloc | apply pw_below_drewN | apply below_drew1) | exact HB.out)⟩
      · rw [if_neg c12] at H
        have c12b0 : (t348 == 1) = false := beq_eq_false_iff_ne.mpr c12
        have c12b1 : (t348 != 1) = true := bne_iff_ne.mpr c12
        by_cases c16 : t348 = 2
        · rw [if_pos c16] at H
          have c16b0 : (t348 == 2) = true := beq_iff_eq.mpr c16
          have c16b1 : (t348 != 2) = false := bne_eq_false_iff_eq.mpr c16
          clear c16
          replace H := Option.bind_eq_some_iff.mp H
          obtain ⟨t351, A170, H⟩ := H
          replace H : (if t351.size + 1 ≤ 9223372036854775807 then ((spec_l4At.f l0 (wrap64 (a1 + 1))).bind fun t352 => ((spec_l4Digits.f k t352).bind fun t353 => (if (t351 ++ (⟨#[32]⟩ : ByteArray)).size + t353.size ≤ 9223372036854775807 then (some ((t351 ++ (⟨#[32]⟩ : ByteArray)) ++ t353, 2)) else (none)))) else (none)) = some (r1, r2) := H
          have A17 := Aside0.mk A170
          clear A170
          by_cases c18 : t351.size + 1 ≤ 9223372036854775807
          · rw [if_pos c18] at H
            have c18b0 := eq_true c18
            have c18b1 : decide (t351.size + 1 ≤ 9223372036854775807) = true := decide_eq_true c18
            try have c18b2 : (9223372036854775807 < t351.size + 1) = False := eq_false (Nat.not_lt.2 c18)
            replace H := Option.bind_eq_some_iff.mp H
            obtain ⟨t352, A190, H⟩ := H
            replace H : ((spec_l4Digits.f k t352).bind fun t353 => (if (t351 ++ (⟨#[32]⟩ : ByteArray)).size + t353.size ≤ 9223372036854775807 then (some ((t351 ++ (⟨#[32]⟩ : ByteArray)) ++ t353, 2)) else (none))) = some (r1, r2) := H
            have A19 := Aside0.mk A190
            clear A190
            replace H := Option.bind_eq_some_iff.mp H
            obtain ⟨t353, A200, H⟩ := H
            replace H : (if (t351 ++ (⟨#[32]⟩ : ByteArray)).size + t353.size ≤ 9223372036854775807 then (some ((t351 ++ (⟨#[32]⟩ : ByteArray)) ++ t353, 2)) else (none)) = some (r1, r2) := H
            have A20 := Aside0.mk A200
            clear A200
            by_cases c21 : (t351 ++ (⟨#[32]⟩ : ByteArray)).size + t353.size ≤ 9223372036854775807
            · rw [if_pos c21] at H
              have c21b0 := eq_true c21
              have c21b1 : decide ((t351 ++ (⟨#[32]⟩ : ByteArray)).size + t353.size ≤ 9223372036854775807) = true := decide_eq_true c21
              try have c21b2 : (9223372036854775807 < (t351 ++ (⟨#[32]⟩ : ByteArray)).size + t353.size) = False := eq_false (Nat.not_lt.2 c21)
              have c21f : (9223372036854775807 < t351.size + 1 + t353.size) = False := eq_false (by have h_ := c21; rw [ByteArray.size_append] at h_; exact Nat.not_lt.2 h_)
              simp only [Option.some.injEq, Prod.mk.injEq] at H
              obtain ⟨rfl, rfl⟩ := H
              go_enter Tryd.func18, Tryd.ntmps18
              go_wp2_with (first | ((with_reducible refine gate_callee (f := 40) rfl ?_); refine goesL_ (some 12) rfl rfl Tryd.func40 (by kernel_rfl) rfl #[.int .i64 a1, .int .i64 0, .int .i64 (wrap64 ((l0.length : Int) - 1))] rfl (by (try simp only [List.map_toArray, List.map_cons, List.map_nil]); first | done | rfl | (simp only [List.length_drop, List.length_take]; rfl)) ?_; (with_reducible refine (spec_l1In.calls a1 0 (wrap64 ((l0.length : Int) - 1)) true _ A3.out).mono ?_); rintro e w' ⟨rfl, ⟨nd, rfl⟩⟩; refine ⟨_, rfl, ?_⟩) | ((with_reducible refine gate_callee (f := 41) rfl ?_); refine goesL_ (some 16) rfl rfl Tryd.func41 (by kernel_rfl) rfl #[.slice A0 l0.length c0, .int .i64 a1] rfl (by (try simp only [List.map_toArray, List.map_cons, List.map_nil]); first | done | rfl | (simp only [List.length_drop, List.length_take]; rfl)) ?_; (with_reducible refine (spec_l4At.calls _ _ l0 a1 t347 _ ?side1 ?side2 A5.out).mono ?_); (case side1 => repeat (first | exact HR0.out | (with_reducible refine Kd.C_alloc ?_ _) | (with_reducible refine Kd.C_drewN ?_ _) | (with_reducible refine Kd.C_drew ?_))); (case side2 => exact HC0.out); rintro e w' ⟨rfl, ⟨nd, rfl⟩⟩; refine ⟨_, rfl, ?_⟩) | ((with_reducible refine gate_callee (f := 42) rfl ?_); refine goesL_ (some 18) rfl rfl Tryd.func42 (by kernel_rfl) rfl #[.int .i64 t347] rfl (by (try simp only [List.map_toArray, List.map_cons, List.map_nil]); first | done | rfl | (simp only [List.length_drop, List.length_take]; rfl)) ?_; (with_reducible refine (spec_OpLen.calls t347 t348 _ A6.out).mono ?_); rintro e w22 ⟨rfl, hb⟩; refine ⟨_, rfl, ?_⟩; have n0_ := Aside0.mk (below_step (by repeat (first | (with_reducible first | exact HB.out | apply below_alloc | apply pw_below_drewN | apply below_drew1) | exact HB.out)) hb); clear HB; have HB := n0_; clear n0_; (try clear hb); (try clear hb2); (try clear hk); (try clear hi)) | ((with_reducible refine gate_callee (f := 44) rfl ?_); refine goesL_ (some 34) rfl rfl Tryd.func44 (by kernel_rfl) rfl #[.int .i64 t347] rfl (by (try simp only [List.map_toArray, List.map_cons, List.map_nil]); first | done | rfl | (simp only [List.length_drop, List.length_take]; rfl)) ?_; (with_reducible refine (spec_OpName.calls t347 t351 _ A17.out).mono ?_); rintro e w23 ⟨rfl, hb⟩; refine ⟨_, rfl, ?_⟩; have n0_ := Aside0.mk (below_step (by repeat (first | (with_reducible first | exact HB.out | apply below_alloc | apply pw_below_drewN | apply below_drew1) | exact HB.out)) hb); clear HB; have HB := n0_; clear n0_; (try clear hb); (try clear hb2); (try clear hk); (try clear hi)) | ((with_reducible refine gate_callee (f := 41) rfl ?_); refine goesL_ (some 39) rfl rfl Tryd.func41 (by kernel_rfl) rfl #[.slice A0 l0.length c0, .int .i64 (wrap64 (a1 + 1))] rfl (by (try simp only [List.map_toArray, List.map_cons, List.map_nil]); first | done | rfl | (simp only [List.length_drop, List.length_take]; rfl)) ?_; (with_reducible refine (spec_l4At.calls _ _ l0 (wrap64 (a1 + 1)) t352 _ ?side1 ?side2 A19.out).mono ?_); (case side1 => repeat (first | exact (Kd.C_below HR0.out HB.out) | (with_reducible refine Kd.C_alloc ?_ _) | (with_reducible refine Kd.C_drewN ?_ _) | (with_reducible refine Kd.C_drew ?_))); (case side2 => exact HC0.out); rintro e w' ⟨rfl, ⟨nd, rfl⟩⟩; refine ⟨_, rfl, ?_⟩) | ((with_reducible refine gate_callee (f := 43) rfl ?_); refine goesL_ (some 40) rfl rfl Tryd.func43 (by kernel_rfl) rfl #[.int .i64 t352] rfl (by (try simp only [List.map_toArray, List.map_cons, List.map_nil]); first | done | rfl | (simp only [List.length_drop, List.length_take]; rfl)) ?_; (with_reducible refine (spec_l4Digits.calls k t352 t353 _ A20.out).mono ?_); rintro e w24 ⟨rfl, hb⟩; refine ⟨_, rfl, ?_⟩; have n0_ := Aside0.mk (below_step (by repeat (first | (with_reducible first | exact HB.out | apply below_alloc | apply pw_below_drewN | apply below_drew1) | exact HB.out)) hb); clear HB; have HB := n0_; clear n0_; (try clear hb); (try clear hb2); (try clear hk); (try clear hi)))
              go_ret2
              exact ⟨by first | rfl | (simp [errW_none, errW_some] <;> rfl) | (simp [*, errW_none, errW_some] <;> rfl), by repeat (first | (with_reducible first | exact HB.out | apply below_alloc | apply pw_below_drewN | apply below_drew1) | exact HB.out)⟩
            · rw [if_neg c21] at H
              exact absurd H (by simp)
          · rw [if_neg c18] at H
            exact absurd H (by simp)
        · rw [if_neg c16] at H
          have c16b0 : (t348 == 2) = false := beq_eq_false_iff_ne.mpr c16
          have c16b1 : (t348 != 2) = true := bne_iff_ne.mpr c16
          replace H := Option.bind_eq_some_iff.mp H
          obtain ⟨t354, A250, H⟩ := H
          replace H : (if t354.size + 1 ≤ 9223372036854775807 then ((spec_l4At.f l0 (wrap64 (a1 + 1))).bind fun t355 => ((spec_l4At.f l0 (wrap64 (a1 + 2))).bind fun t356 => ((spec_Join.f t355 t356).bind fun t357 => ((spec_l4Digits.f k t357).bind fun t358 => (if (t354 ++ (⟨#[32]⟩ : ByteArray)).size + t358.size ≤ 9223372036854775807 then (some ((t354 ++ (⟨#[32]⟩ : ByteArray)) ++ t358, 3)) else (none)))))) else (none)) = some (r1, r2) := H
          have A25 := Aside0.mk A250
          clear A250
          by_cases c26 : t354.size + 1 ≤ 9223372036854775807
          · rw [if_pos c26] at H
            have c26b0 := eq_true c26
            have c26b1 : decide (t354.size + 1 ≤ 9223372036854775807) = true := decide_eq_true c26
            try have c26b2 : (9223372036854775807 < t354.size + 1) = False := eq_false (Nat.not_lt.2 c26)
            replace H := Option.bind_eq_some_iff.mp H
            obtain ⟨t355, A270, H⟩ := H
            replace H : ((spec_l4At.f l0 (wrap64 (a1 + 2))).bind fun t356 => ((spec_Join.f t355 t356).bind fun t357 => ((spec_l4Digits.f k t357).bind fun t358 => (if (t354 ++ (⟨#[32]⟩ : ByteArray)).size + t358.size ≤ 9223372036854775807 then (some ((t354 ++ (⟨#[32]⟩ : ByteArray)) ++ t358, 3)) else (none))))) = some (r1, r2) := H
            have A27 := Aside0.mk A270
            clear A270
            replace H := Option.bind_eq_some_iff.mp H
            obtain ⟨t356, A280, H⟩ := H
            replace H : ((spec_Join.f t355 t356).bind fun t357 => ((spec_l4Digits.f k t357).bind fun t358 => (if (t354 ++ (⟨#[32]⟩ : ByteArray)).size + t358.size ≤ 9223372036854775807 then (some ((t354 ++ (⟨#[32]⟩ : ByteArray)) ++ t358, 3)) else (none)))) = some (r1, r2) := H
            have A28 := Aside0.mk A280
            clear A280
            replace H := Option.bind_eq_some_iff.mp H
            obtain ⟨t357, A290, H⟩ := H
            replace H : ((spec_l4Digits.f k t357).bind fun t358 => (if (t354 ++ (⟨#[32]⟩ : ByteArray)).size + t358.size ≤ 9223372036854775807 then (some ((t354 ++ (⟨#[32]⟩ : ByteArray)) ++ t358, 3)) else (none))) = some (r1, r2) := H
            have A29 := Aside0.mk A290
            clear A290
            replace H := Option.bind_eq_some_iff.mp H
            obtain ⟨t358, A300, H⟩ := H
            replace H : (if (t354 ++ (⟨#[32]⟩ : ByteArray)).size + t358.size ≤ 9223372036854775807 then (some ((t354 ++ (⟨#[32]⟩ : ByteArray)) ++ t358, 3)) else (none)) = some (r1, r2) := H
            have A30 := Aside0.mk A300
            clear A300
            by_cases c31 : (t354 ++ (⟨#[32]⟩ : ByteArray)).size + t358.size ≤ 9223372036854775807
            · rw [if_pos c31] at H
              have c31b0 := eq_true c31
              have c31b1 : decide ((t354 ++ (⟨#[32]⟩ : ByteArray)).size + t358.size ≤ 9223372036854775807) = true := decide_eq_true c31
              try have c31b2 : (9223372036854775807 < (t354 ++ (⟨#[32]⟩ : ByteArray)).size + t358.size) = False := eq_false (Nat.not_lt.2 c31)
              have c31f : (9223372036854775807 < t354.size + 1 + t358.size) = False := eq_false (by have h_ := c31; rw [ByteArray.size_append] at h_; exact Nat.not_lt.2 h_)
              simp only [Option.some.injEq, Prod.mk.injEq] at H
              obtain ⟨rfl, rfl⟩ := H
              go_enter Tryd.func18, Tryd.ntmps18
              go_wp2_with (first | ((with_reducible refine gate_callee (f := 40) rfl ?_); refine goesL_ (some 12) rfl rfl Tryd.func40 (by kernel_rfl) rfl #[.int .i64 a1, .int .i64 0, .int .i64 (wrap64 ((l0.length : Int) - 1))] rfl (by (try simp only [List.map_toArray, List.map_cons, List.map_nil]); first | done | rfl | (simp only [List.length_drop, List.length_take]; rfl)) ?_; (with_reducible refine (spec_l1In.calls a1 0 (wrap64 ((l0.length : Int) - 1)) true _ A3.out).mono ?_); rintro e w' ⟨rfl, ⟨nd, rfl⟩⟩; refine ⟨_, rfl, ?_⟩) | ((with_reducible refine gate_callee (f := 41) rfl ?_); refine goesL_ (some 16) rfl rfl Tryd.func41 (by kernel_rfl) rfl #[.slice A0 l0.length c0, .int .i64 a1] rfl (by (try simp only [List.map_toArray, List.map_cons, List.map_nil]); first | done | rfl | (simp only [List.length_drop, List.length_take]; rfl)) ?_; (with_reducible refine (spec_l4At.calls _ _ l0 a1 t347 _ ?side1 ?side2 A5.out).mono ?_); (case side1 => repeat (first | exact HR0.out | (with_reducible refine Kd.C_alloc ?_ _) | (with_reducible refine Kd.C_drewN ?_ _) | (with_reducible refine Kd.C_drew ?_))); (case side2 => exact HC0.out); rintro e w' ⟨rfl, ⟨nd, rfl⟩⟩; refine ⟨_, rfl, ?_⟩) | ((with_reducible refine gate_callee (f := 42) rfl ?_); refine goesL_ (some 18) rfl rfl Tryd.func42 (by kernel_rfl) rfl #[.int .i64 t347] rfl (by (try simp only [List.map_toArray, List.map_cons, List.map_nil]); first | done | rfl | (simp only [List.length_drop, List.length_take]; rfl)) ?_; (with_reducible refine (spec_OpLen.calls t347 t348 _ A6.out).mono ?_); rintro e w32 ⟨rfl, hb⟩; refine ⟨_, rfl, ?_⟩; have n0_ := Aside0.mk (below_step (by repeat (first | (with_reducible first | exact HB.out | apply below_alloc | apply pw_below_drewN | apply below_drew1) | exact HB.out)) hb); clear HB; have HB := n0_; clear n0_; (try clear hb); (try clear hb2); (try clear hk); (try clear hi)) | ((with_reducible refine gate_callee (f := 44) rfl ?_); refine goesL_ (some 43) rfl rfl Tryd.func44 (by kernel_rfl) rfl #[.int .i64 t347] rfl (by (try simp only [List.map_toArray, List.map_cons, List.map_nil]); first | done | rfl | (simp only [List.length_drop, List.length_take]; rfl)) ?_; (with_reducible refine (spec_OpName.calls t347 t354 _ A25.out).mono ?_); rintro e w33 ⟨rfl, hb⟩; refine ⟨_, rfl, ?_⟩; have n0_ := Aside0.mk (below_step (by repeat (first | (with_reducible first | exact HB.out | apply below_alloc | apply pw_below_drewN | apply below_drew1) | exact HB.out)) hb); clear HB; have HB := n0_; clear n0_; (try clear hb); (try clear hb2); (try clear hk); (try clear hi)) | ((with_reducible refine gate_callee (f := 41) rfl ?_); refine goesL_ (some 48) rfl rfl Tryd.func41 (by kernel_rfl) rfl #[.slice A0 l0.length c0, .int .i64 (wrap64 (a1 + 1))] rfl (by (try simp only [List.map_toArray, List.map_cons, List.map_nil]); first | done | rfl | (simp only [List.length_drop, List.length_take]; rfl)) ?_; (with_reducible refine (spec_l4At.calls _ _ l0 (wrap64 (a1 + 1)) t355 _ ?side1 ?side2 A27.out).mono ?_); (case side1 => repeat (first | exact (Kd.C_below HR0.out HB.out) | (with_reducible refine Kd.C_alloc ?_ _) | (with_reducible refine Kd.C_drewN ?_ _) | (with_reducible refine Kd.C_drew ?_))); (case side2 => exact HC0.out); rintro e w' ⟨rfl, ⟨nd, rfl⟩⟩; refine ⟨_, rfl, ?_⟩) | ((with_reducible refine gate_callee (f := 41) rfl ?_); refine goesL_ (some 52) rfl rfl Tryd.func41 (by kernel_rfl) rfl #[.slice A0 l0.length c0, .int .i64 (wrap64 (a1 + 2))] rfl (by (try simp only [List.map_toArray, List.map_cons, List.map_nil]); first | done | rfl | (simp only [List.length_drop, List.length_take]; rfl)) ?_; (with_reducible refine (spec_l4At.calls _ _ l0 (wrap64 (a1 + 2)) t356 _ ?side1 ?side2 A28.out).mono ?_); (case side1 => repeat (first | exact (Kd.C_below HR0.out (by repeat (first | (with_reducible first | exact HB.out | apply below_alloc | apply pw_below_drewN | apply below_drew1) | exact HB.out))) | (with_reducible refine Kd.C_alloc ?_ _) | (with_reducible refine Kd.C_drewN ?_ _) | (with_reducible refine Kd.C_drew ?_))); (case side2 => exact HC0.out); rintro e w' ⟨rfl, ⟨nd, rfl⟩⟩; refine ⟨_, rfl, ?_⟩) | ((with_reducible refine gate_callee (f := 45) rfl ?_); refine goesL_ (some 53) rfl rfl Tryd.func45 (by kernel_rfl) rfl #[.int .i64 t355, .int .i64 t356] rfl (by (try simp only [List.map_toArray, List.map_cons, List.map_nil]); first | done | rfl | (simp only [List.length_drop, List.length_take]; rfl)) ?_; (with_reducible refine (spec_Join.calls t355 t356 t357 _ A29.out).mono ?_); rintro e w' ⟨rfl, ⟨nd, rfl⟩⟩; refine ⟨_, rfl, ?_⟩) | ((with_reducible refine gate_callee (f := 43) rfl ?_); refine goesL_ (some 54) rfl rfl Tryd.func43 (by kernel_rfl) rfl #[.int .i64 t357] rfl (by (try simp only [List.map_toArray, List.map_cons, List.map_nil]); first | done | rfl | (simp only [List.length_drop, List.length_take]; rfl)) ?_; (with_reducible refine (spec_l4Digits.calls k t357 t358 _ A30.out).mono ?_); rintro e w34 ⟨rfl, hb⟩; refine ⟨_, rfl, ?_⟩; have n0_ := Aside0.mk (below_step (by repeat (first | (with_reducible first | exact HB.out | apply below_alloc | apply pw_below_drewN | apply below_drew1) | exact HB.out)) hb); clear HB; have HB := n0_; clear n0_; (try clear hb); (try clear hb2); (try clear hk); (try clear hi)))
              go_ret2
              exact ⟨by first | rfl | (simp [errW_none, errW_some] <;> rfl) | (simp [*, errW_none, errW_some] <;> rfl), by repeat (first | (with_reducible first | exact HB.out | apply below_alloc | apply pw_below_drewN | apply below_drew1) | exact HB.out)⟩
            · rw [if_neg c31] at H
              exact absurd H (by simp)
          · rw [if_neg c26] at H
            exact absurd H (by simp)
  · replace c4 := Bool.eq_false_iff.mpr c4
    subst c4
    have H1 : (some ((⟨#[]⟩ : ByteArray), 0)) = some (r1, r2) := by rw [if_neg (show ¬ (false = true) by decide)] at H; exact H
    clear H
    have H := H1
    clear H1
    simp only [Option.some.injEq, Prod.mk.injEq] at H
    obtain ⟨rfl, rfl⟩ := H
    go_enter Tryd.func18, Tryd.ntmps18
    go_wp2_with (first | ((with_reducible refine gate_callee (f := 40) rfl ?_); refine goesL_ (some 12) rfl rfl Tryd.func40 (by kernel_rfl) rfl #[.int .i64 a1, .int .i64 0, .int .i64 (wrap64 ((l0.length : Int) - 1))] rfl (by (try simp only [List.map_toArray, List.map_cons, List.map_nil]); first | done | rfl | (simp only [List.length_drop, List.length_take]; rfl)) ?_; (with_reducible refine (spec_l1In.calls a1 0 (wrap64 ((l0.length : Int) - 1)) false _ A3.out).mono ?_); rintro e w' ⟨rfl, ⟨nd, rfl⟩⟩; refine ⟨_, rfl, ?_⟩))
    go_ret2
    exact ⟨by first | rfl | (simp [errW_none, errW_some] <;> rfl) | (simp [*, errW_none, errW_some] <;> rfl), by repeat (first | (with_reducible first | exact HB.out | apply below_alloc | apply pw_below_drewN | apply below_drew1) | exact HB.out)⟩

/-! ### spec_l1Min: function 32 -/
def spec_l1Min.f (a0 : Int) (a1 : Int) : Option (Int) := if a0 < a1 then (some a0) else (some a1)
set_option maxHeartbeats 8000000 in
set_option maxRecDepth 100000 in
theorem spec_l1Min.calls (a0 : Int) (a1 : Int) (r : Int) (w : World) (h : spec_l1Min.f a0 a1 = some r) :
    Calls Tryd.prog 32 #[.int .i64 a0, .int .i64 a1] w fun e w' => e = .returned (.int .i64 r) ∧ Drawn0 w w' := by
  have H : (if a0 < a1 then (some a0) else (some a1)) = some r := h
  clear h
  by_cases c3 : a0 < a1
  · rw [if_pos c3] at H
    have c3b0 : decide (a0 < a1) = true := decide_eq_true c3
    clear c3
    obtain rfl := Option.some.inj H
    go_enter Tryd.func32, Tryd.ntmps32
    go_wp2
    go_ret
    exact ⟨by first | rfl | (simp; done) | (simp [*]; done), by repeat (first | exact Drawn0.refl _ | apply Drawn0.step)⟩
  · rw [if_neg c3] at H
    have c3b0 : decide (a0 < a1) = false := decide_eq_false c3
    clear c3
    obtain rfl := Option.some.inj H
    go_enter Tryd.func32, Tryd.ntmps32
    go_wp2
    go_ret
    exact ⟨by first | rfl | (simp; done) | (simp [*]; done), by repeat (first | exact Drawn0.refl _ | apply Drawn0.step)⟩

/-! ### spec_Listing: function 16 -/
def spec_Listing.l0 : Nat → List Int → Int → Int → ByteArray → Int → Option (ByteArray)
  | 0, _, _, _, _, _ => none
  | k + 1, x0, x1, x2, x7, x8 => (spec_l1Min.f x2 256).bind fun t359 => (if x8 < t359 then ((spec_LineOf.f k x0 x1).bind fun bt360 => (if bt360.2 = 0 then (some x7) else (if x7.size + bt360.1.size ≤ 9223372036854775807 then (if (x7 ++ bt360.1).size + 1 ≤ 9223372036854775807 then (spec_Listing.l0 k x0 (wrap64 (x1 + bt360.2)) x2 ((x7 ++ bt360.1) ++ (⟨#[10]⟩ : ByteArray)) (wrap64 (x8 + 1))) else (none)) else (none)))) else (some x7))
def spec_Listing.f (k : Nat) (l0 : List Int) (a1 : Int) (a2 : Int) : Option (ByteArray) := spec_Listing.l0 k l0 a1 a2 (⟨#[]⟩ : ByteArray) 0
set_option maxHeartbeats 8000000 in
set_option maxRecDepth 100000 in
theorem spec_Listing.calls (k : Nat) (A0 : Option Addr) (c0 : Nat) (l0 : List Int) (a1 : Int) (a2 : Int) (r : ByteArray) (w : World) (hr0 : Kd.C (Kd.int .i64) w A0 l0.length l0) (hc0 : l0.length ≤ c0) (h : spec_Listing.f k l0 a1 a2 = some r) :
    Calls Tryd.prog 16 #[.slice A0 l0.length c0, .int .i64 a1, .int .i64 a2] w fun e w' => e = .returned (.string r) ∧ Below w.heap.size w w' := by
  have HR0 := Aside0.mk hr0
  have HC0 := Aside0.mk hc0
  clear hr0 hc0
  have HB := Aside0.mk (Below.refl w.heap.size w)
  have H : (spec_Listing.l0 k l0 a1 a2 (⟨#[]⟩ : ByteArray) 0) = some r := h
  clear h
  have H' := Aside0.mk H
  clear H
  go_enter Tryd.func16, Tryd.ntmps16
  go_wp2
  go_loopg [1, 7, 8] k (fun kq v1 v7 v8 w' => ∃ (x1_1 : Int) (x7_1 : ByteArray) (x8_1 : Int), v1 = .int .i64 x1_1 ∧ v7 = .string x7_1 ∧ v8 = .int .i64 x8_1 ∧ Aside0 (spec_Listing.l0 kq l0 x1_1 a2 x7_1 x8_1 = some r) ∧ Aside0 (kq ≤ k) ∧ Aside0 (Below w.heap.size w w'))
  case atStart => exact ⟨(a1), ((⟨#[]⟩ : ByteArray)), (0), (by first | rfl | (simp; done) | (simp [*]; done)), (by first | rfl | (simp; done) | (simp [*]; done)), (by first | rfl | (simp; done) | (simp [*]; done)), H', ⟨Nat.le_refl _⟩, ⟨by repeat (first | (with_reducible first | exact HB.out | apply below_alloc | apply pw_below_drewN | apply below_drew1) | exact HB.out)⟩⟩
  case round =>
    clear H'
    try clear c1
    try clear p2
    obtain ⟨x1_1, x7_1, x8_1, rfl, rfl, rfl, HA, HK1, HB⟩ := hrel
    cases gk with
    | zero => exact absurd HA.out (by simp [spec_Listing.l0])
    | succ k1 =>
      have H := HA.out
      clear HA
      simp only [spec_Listing.l0] at H
      replace H := Option.bind_eq_some_iff.mp H
      obtain ⟨t359, A40, H⟩ := H
      replace H : (if x8_1 < t359 then ((spec_LineOf.f k1 l0 x1_1).bind fun bt360 => (if bt360.2 = 0 then (some x7_1) else (if x7_1.size + bt360.1.size ≤ 9223372036854775807 then (if (x7_1 ++ bt360.1).size + 1 ≤ 9223372036854775807 then (spec_Listing.l0 k1 l0 (wrap64 (x1_1 + bt360.2)) a2 ((x7_1 ++ bt360.1) ++ (⟨#[10]⟩ : ByteArray)) (wrap64 (x8_1 + 1))) else (none)) else (none)))) else (some x7_1)) = some r := H
      have A4 := Aside0.mk A40
      clear A40
      by_cases c5 : x8_1 < t359
      · rw [if_pos c5] at H
        have c5b0 : decide (x8_1 < t359) = true := decide_eq_true c5
        clear c5
        replace H := Option.bind_eq_some_iff.mp H
        obtain ⟨⟨t360, t361⟩, A60, H⟩ := H
        replace H : (if t361 = 0 then (some x7_1) else (if x7_1.size + t360.size ≤ 9223372036854775807 then (if (x7_1 ++ t360).size + 1 ≤ 9223372036854775807 then (spec_Listing.l0 k1 l0 (wrap64 (x1_1 + t361)) a2 ((x7_1 ++ t360) ++ (⟨#[10]⟩ : ByteArray)) (wrap64 (x8_1 + 1))) else (none)) else (none))) = some r := H
        have A6 := Aside0.mk A60
        clear A60
        by_cases c7 : t361 = 0
        · rw [if_pos c7] at H
          have c7b0 : (t361 == 0) = true := beq_iff_eq.mpr c7
          have c7b1 : (t361 != 0) = false := bne_eq_false_iff_eq.mpr c7
          clear c7
          obtain rfl := Option.some.inj H
          go_wp2_with (first | ((with_reducible refine gate_callee (f := 32) rfl ?_); refine goesL_ (some 13) rfl rfl Tryd.func32 (by kernel_rfl) rfl #[.int .i64 a2, .int .i64 256] rfl (by (try simp only [List.map_toArray, List.map_cons, List.map_nil]); first | done | rfl | (simp only [List.length_drop, List.length_take]; rfl)) ?_; (with_reducible refine (spec_l1Min.calls a2 256 t359 _ A4.out).mono ?_); rintro e w' ⟨rfl, ⟨nd, rfl⟩⟩; refine ⟨_, rfl, ?_⟩) | ((with_reducible refine gate_callee (f := 18) rfl ?_); refine goesL_ (some 20) rfl rfl Tryd.func18 (by kernel_rfl) rfl #[.slice A0 l0.length c0, .int .i64 x1_1] rfl (by (try simp only [List.map_toArray, List.map_cons, List.map_nil]); first | done | rfl | (simp only [List.length_drop, List.length_take]; rfl)) ?_; (with_reducible refine (spec_LineOf.calls k1 _ _ l0 x1_1 t360 t361 _ ?side1 ?side2 A6.out).mono ?_); (case side1 => repeat (first | exact (Kd.C_below HR0.out (by repeat (first | (with_reducible first | exact HB.out | apply below_alloc | apply pw_below_drewN | apply below_drew1) | exact HB.out))) | (with_reducible refine Kd.C_alloc ?_ _) | (with_reducible refine Kd.C_drewN ?_ _) | (with_reducible refine Kd.C_drew ?_))); (case side2 => exact HC0.out); rintro e w8 ⟨rfl, hb⟩; refine ⟨_, rfl, ?_⟩; have n0_ := Aside0.mk (below_step (by repeat (first | (with_reducible first | exact HB.out | apply below_alloc | apply pw_below_drewN | apply below_drew1) | exact HB.out)) hb); clear HB; have HB := n0_; clear n0_; (try clear hb); (try clear hb2); (try clear hk); (try clear hi)))
          go_ret
          exact ⟨by first | rfl | (simp [errW_none, errW_some] <;> rfl) | (simp [*, errW_none, errW_some] <;> rfl), by repeat (first | (with_reducible first | exact HB.out | apply below_alloc | apply pw_below_drewN | apply below_drew1) | exact HB.out)⟩
        · rw [if_neg c7] at H
          have c7b0 : (t361 == 0) = false := beq_eq_false_iff_ne.mpr c7
          have c7b1 : (t361 != 0) = true := bne_iff_ne.mpr c7
          by_cases c9 : x7_1.size + t360.size ≤ 9223372036854775807
          · rw [if_pos c9] at H
            have c9b0 := eq_true c9
            have c9b1 : decide (x7_1.size + t360.size ≤ 9223372036854775807) = true := decide_eq_true c9
            try have c9b2 : (9223372036854775807 < x7_1.size + t360.size) = False := eq_false (Nat.not_lt.2 c9)
            by_cases c10 : (x7_1 ++ t360).size + 1 ≤ 9223372036854775807
            · rw [if_pos c10] at H
              have c10b0 := eq_true c10
              have c10b1 : decide ((x7_1 ++ t360).size + 1 ≤ 9223372036854775807) = true := decide_eq_true c10
              try have c10b2 : (9223372036854775807 < (x7_1 ++ t360).size + 1) = False := eq_false (Nat.not_lt.2 c10)
              have c10f : (9223372036854775807 < x7_1.size + t360.size + 1) = False := eq_false (by have h_ := c10; rw [ByteArray.size_append] at h_; exact Nat.not_lt.2 h_)
              have H' := Aside0.mk H
              clear H
              go_wp2_with (first | ((with_reducible refine gate_callee (f := 32) rfl ?_); refine goesL_ (some 13) rfl rfl Tryd.func32 (by kernel_rfl) rfl #[.int .i64 a2, .int .i64 256] rfl (by (try simp only [List.map_toArray, List.map_cons, List.map_nil]); first | done | rfl | (simp only [List.length_drop, List.length_take]; rfl)) ?_; (with_reducible refine (spec_l1Min.calls a2 256 t359 _ A4.out).mono ?_); rintro e w' ⟨rfl, ⟨nd, rfl⟩⟩; refine ⟨_, rfl, ?_⟩) | ((with_reducible refine gate_callee (f := 18) rfl ?_); refine goesL_ (some 20) rfl rfl Tryd.func18 (by kernel_rfl) rfl #[.slice A0 l0.length c0, .int .i64 x1_1] rfl (by (try simp only [List.map_toArray, List.map_cons, List.map_nil]); first | done | rfl | (simp only [List.length_drop, List.length_take]; rfl)) ?_; (with_reducible refine (spec_LineOf.calls k1 _ _ l0 x1_1 t360 t361 _ ?side1 ?side2 A6.out).mono ?_); (case side1 => repeat (first | exact (Kd.C_below HR0.out (by repeat (first | (with_reducible first | exact HB.out | apply below_alloc | apply pw_below_drewN | apply below_drew1) | exact HB.out))) | (with_reducible refine Kd.C_alloc ?_ _) | (with_reducible refine Kd.C_drewN ?_ _) | (with_reducible refine Kd.C_drew ?_))); (case side2 => exact HC0.out); rintro e w11 ⟨rfl, hb⟩; refine ⟨_, rfl, ?_⟩; have n0_ := Aside0.mk (below_step (by repeat (first | (with_reducible first | exact HB.out | apply below_alloc | apply pw_below_drewN | apply below_drew1) | exact HB.out)) hb); clear HB; have HB := n0_; clear n0_; (try clear hb); (try clear hb2); (try clear hk); (try clear hi)))
              go_roundg k1
              case measure => have := HK1.out; omega
              case rel => exact ⟨(wrap64 (x1_1 + t361)), ((x7_1 ++ t360) ++ (⟨#[10]⟩ : ByteArray)), (wrap64 (x8_1 + 1)), (by first | rfl | (simp; done) | (simp [*]; done)), (by first | rfl | (simp; done) | (simp [*]; done)), (by first | rfl | (simp; done) | (simp [*]; done)), H', ⟨by have := HK1.out; omega⟩, ⟨by repeat (first | (with_reducible first | exact HB.out | apply below_alloc | apply pw_below_drewN | apply below_drew1) | exact HB.out)⟩⟩
            · rw [if_neg c10] at H
              exact absurd H (by simp)
          · rw [if_neg c9] at H
            exact absurd H (by simp)
      · rw [if_neg c5] at H
        have c5b0 : decide (x8_1 < t359) = false := decide_eq_false c5
        clear c5
        obtain rfl := Option.some.inj H
        go_wp2_with (first | ((with_reducible refine gate_callee (f := 32) rfl ?_); refine goesL_ (some 13) rfl rfl Tryd.func32 (by kernel_rfl) rfl #[.int .i64 a2, .int .i64 256] rfl (by (try simp only [List.map_toArray, List.map_cons, List.map_nil]); first | done | rfl | (simp only [List.length_drop, List.length_take]; rfl)) ?_; (with_reducible refine (spec_l1Min.calls a2 256 t359 _ A4.out).mono ?_); rintro e w' ⟨rfl, ⟨nd, rfl⟩⟩; refine ⟨_, rfl, ?_⟩))
        go_ret
        exact ⟨by first | rfl | (simp [errW_none, errW_some] <;> rfl) | (simp [*, errW_none, errW_some] <;> rfl), by repeat (first | (with_reducible first | exact HB.out | apply below_alloc | apply pw_below_drewN | apply below_drew1) | exact HB.out)⟩

end Go.Proofs.YtbggkcnglmiheaaDoor.MFnListed
