/- Walks of functions that the law FnAssembled reaches: each comes to just what its Lean function says. (Begun as the texts that print.sh wrote for this claim; some of them, and those that it does not write, are mine.) No condition. -/
import Derived.Test.YtbggkcnglmiheaaDoorMFnAssembledx1
namespace Go.Proofs.YtbggkcnglmiheaaDoor.MFnAssembled
open Go.RowKit Go.Proofs.YtbggkcnglmiheaaDoorW.PrintWords Go.Proofs.YtbggkcnglmiheaaDoorW.PrintLast Go.Proofs.YtbggkcnglmiheaaDoorW.PrintMore
attribute [local go_sem] max2_int min2_int max_two min_two max_three min_three max_four min_four   -- for this text's walks alone
set_option linter.unusedVariables false
set_option linter.unusedSimpArgs false

/-! ### slices_Index_string_string: function 68 -/
def slices_Index_string_string.l0 : Nat → List ByteArray → ByteArray → Int → Int → Option (Int)
  | 0, _, _, _, _ => none
  | k + 1, x0, x1, x7, x8 => if x8 < x7 then (if 0 ≤ x8 then (if x8 < (x0.length : Int) then (if x1.toList = (rdOf ByteArray.empty x0 x8).toList then (some x8) else (slices_Index_string_string.l0 k x0 x1 x7 (wrap64 (x8 + 1)))) else (none)) else (none)) else (some (-1))
def slices_Index_string_string.f (k : Nat) (l0 : List ByteArray) (a1 : ByteArray) : Option (Int) := slices_Index_string_string.l0 k l0 a1 (l0.length : Int) 0
set_option maxHeartbeats 8000000 in
set_option maxRecDepth 100000 in
theorem slices_Index_string_string.calls (k : Nat) (A0 : Option Addr) (c0 : Nat) (l0 : List ByteArray) (a1 : ByteArray) (r : Int) (w : World) (hr0 : Kd.C Kd.string w A0 l0.length l0) (hc0 : l0.length ≤ c0) (h : slices_Index_string_string.f k l0 a1 = some r) :
    Calls Tryd.prog 68 #[.slice A0 l0.length c0, .string a1] w fun e w' => e = .returned (.int .i64 r) ∧ Drawn0 w w' := by
  have HR0 := Aside0.mk hr0
  have HC0 := Aside0.mk hc0
  clear hr0 hc0
  have H : (slices_Index_string_string.l0 k l0 a1 (l0.length : Int) 0) = some r := h
  clear h
  have H' := Aside0.mk H
  clear H
  go_enter Tryd.func68, Tryd.ntmps68
  go_wp2
  go_loopg [8] k (fun kq v8 w' => ∃ (x8_1 : Int), v8 = .int .i64 x8_1 ∧ Aside0 (slices_Index_string_string.l0 kq l0 a1 (l0.length : Int) x8_1 = some r) ∧ Aside0 (kq ≤ k) ∧ Drawn0 w w')
  case atStart => exact ⟨(0), (by first | rfl | (simp; done) | (simp [*]; done)), H', ⟨Nat.le_refl _⟩, by repeat (first | exact Drawn0.refl _ | apply Drawn0.step)⟩
  case round =>
    clear H'
    try clear p2
    obtain ⟨x8_1, rfl, HA, HK1, ⟨m1, rfl⟩⟩ := hrel
    cases gk with
    | zero => exact absurd HA.out (by simp [slices_Index_string_string.l0])
    | succ k1 =>
      have H := HA.out
      clear HA
      simp only [slices_Index_string_string.l0] at H
      by_cases c3 : x8_1 < (l0.length : Int)
      · rw [if_pos c3] at H
        have c3b0 : decide (x8_1 < (l0.length : Int)) = true := decide_eq_true c3
        clear c3
        by_cases c4 : 0 ≤ x8_1
        · rw [if_pos c4] at H
          have c4b0 : decide (0 ≤ x8_1) = true := decide_eq_true c4
          clear c4
          by_cases c5 : x8_1 < (l0.length : Int)
          · rw [if_pos c5] at H
            have c5b0 : decide (x8_1 < (l0.length : Int)) = true := decide_eq_true c5
            clear c5
            by_cases c6 : a1.toList = (rdOf ByteArray.empty l0 x8_1).toList
            · rw [if_pos c6] at H
              have c6b0 : (a1.toList == (rdOf ByteArray.empty l0 x8_1).toList) = true := beq_iff_eq.mpr c6
              have c6b1 : (a1.toList != (rdOf ByteArray.empty l0 x8_1).toList) = false := bne_eq_false_iff_eq.mpr c6
              clear c6
              obtain rfl := Option.some.inj H
              have p221 : 0 ≤ (x8_1 : Int) := of_decide_eq_true (by first | (with_reducible assumption) | assumption)
              have q221 : x8_1 < (l0.length : Int) := of_decide_eq_true (by first | (with_reducible assumption) | assumption)
              obtain ⟨ad221, e221, hx221_0⟩ := Kd.at_string HR0.out x8_1 p221 q221
              cases e221
              replace p221 := eq_true p221
              replace q221 := eq_true q221
              go_wp2
              go_ret
              exact ⟨by first | rfl | (simp; done) | (simp [*]; done), by repeat (first | exact Drawn0.refl _ | apply Drawn0.step)⟩
            · rw [if_neg c6] at H
              have c6b0 : (a1.toList == (rdOf ByteArray.empty l0 x8_1).toList) = false := beq_eq_false_iff_ne.mpr c6
              have c6b1 : (a1.toList != (rdOf ByteArray.empty l0 x8_1).toList) = true := bne_iff_ne.mpr c6
              have H' := Aside0.mk H
              clear H
              have p221 : 0 ≤ (x8_1 : Int) := of_decide_eq_true (by first | (with_reducible assumption) | assumption)
              have q221 : x8_1 < (l0.length : Int) := of_decide_eq_true (by first | (with_reducible assumption) | assumption)
              obtain ⟨ad221, e221, hx221_0⟩ := Kd.at_string HR0.out x8_1 p221 q221
              cases e221
              replace p221 := eq_true p221
              replace q221 := eq_true q221
              go_wp2
              go_roundg k1
              case measure => have := HK1.out; omega
              case rel => exact ⟨(wrap64 (x8_1 + 1)), (by first | rfl | (simp; done) | (simp [*]; done)), H', ⟨by have := HK1.out; omega⟩, by repeat (first | exact Drawn0.refl _ | apply Drawn0.step)⟩
          · rw [if_neg c5] at H
            exact absurd H (by simp)
        · rw [if_neg c4] at H
          exact absurd H (by simp)
      · rw [if_neg c3] at H
        have c3b0 : decide (x8_1 < (l0.length : Int)) = false := decide_eq_false c3
        clear c3
        obtain rfl := Option.some.inj H
        go_wp2
        go_ret
        exact ⟨by first | rfl | (simp; done) | (simp [*]; done), by repeat (first | exact Drawn0.refl _ | apply Drawn0.step)⟩

/-! ### impl_OpOf: function 56 -/
def impl_OpOf.f (k : Nat) (a0 : ByteArray) : Option (Int) := (impl_opNames.f).bind fun t222 => ((slices_Index_string_string.f k t222 a0).bind fun t225 => (some t225))
set_option maxHeartbeats 8000000 in
set_option maxRecDepth 100000 in
theorem impl_OpOf.calls (k : Nat) (a0 : ByteArray) (r : Int) (w : World) (h : impl_OpOf.f k a0 = some r) :
    Calls Tryd.prog 56 #[.string a0] w fun e w' => e = .returned (.int .i64 r) ∧ Below w.heap.size w w' := by
  have HB := Aside0.mk (Below.refl w.heap.size w)
  have H : ((impl_opNames.f).bind fun t222 => ((slices_Index_string_string.f k t222 a0).bind fun t225 => (some t225))) = some r := h
  clear h
  replace H := Option.bind_eq_some_iff.mp H
  obtain ⟨t222, A20, H⟩ := H
  replace H : ((slices_Index_string_string.f k t222 a0).bind fun t225 => (some t225)) = some r := H
  have A2 := Aside0.mk A20
  clear A20
  replace H := Option.bind_eq_some_iff.mp H
  obtain ⟨t225, A30, H⟩ := H
  replace H : (some t225) = some r := H
  have A3 := Aside0.mk A30
  clear A30
  obtain rfl := Option.some.inj H
  go_enter Tryd.func56, Tryd.ntmps56
  go_wp2_with (first | ((with_reducible refine gate_callee (f := 59) rfl ?_); refine goesL_ (some 3) rfl rfl Tryd.func59 (by kernel_rfl) rfl #[] rfl (by (try simp only [List.map_toArray, List.map_cons, List.map_nil]); first | done | rfl | (simp only [List.length_drop, List.length_take]; rfl)) ?_; (with_reducible refine (impl_opNames.calls  t222 _ A2.out).mono ?_); rintro e w4 ⟨v223, rfl, ho0, hb⟩; refine ⟨_, rfl, ?_⟩; have n0_ := Aside0.mk (Kd.R_lower ho0 (below_size (by repeat (first | (with_reducible first | exact HB.out | apply below_alloc | apply pw_below_drewN | apply below_drew1) | exact HB.out)))); have n1_ := Aside0.mk (below_step (by repeat (first | (with_reducible first | exact HB.out | apply below_alloc | apply pw_below_drewN | apply below_drew1) | exact HB.out)) hb); clear HB; have HO224 := n0_; have HB := n1_; clear n0_ n1_; (try clear hb); (try clear hb2); (try clear hk); (try clear hi); (try clear ho0); obtain ⟨Ao5, co5, eo5⟩ := Kd.R_slice HO224.out; subst eo5) | ((with_reducible refine gate_callee (f := 68) rfl ?_); refine goesL_ (some 5) rfl rfl Tryd.func68 (by kernel_rfl) rfl #[.slice Ao5 t222.length co5, .string a0] rfl (by (try simp only [List.map_toArray, List.map_cons, List.map_nil]); first | done | rfl | (simp only [List.length_drop, List.length_take]; rfl)) ?_; (with_reducible refine (slices_Index_string_string.calls k _ _ t222 a0 t225 _ ?side1 ?side2 A3.out).mono ?_); (case side1 => repeat (first | exact (Kd.R_reads' HO224.out).2.2 | (with_reducible refine Kd.C_alloc ?_ _) | (with_reducible refine Kd.C_drewN ?_ _) | (with_reducible refine Kd.C_drew ?_))); (case side2 => exact (Kd.R_reads' HO224.out).2.1); rintro e w' ⟨rfl, ⟨nd, rfl⟩⟩; refine ⟨_, rfl, ?_⟩))
  go_ret
  exact ⟨by first | rfl | (simp [errW_none, errW_some] <;> rfl) | (simp [*, errW_none, errW_some] <;> rfl), by repeat (first | (with_reducible first | exact HB.out | apply below_alloc | apply pw_below_drewN | apply below_drew1) | exact HB.out)⟩

/-! ### impl_lineBytes: function 28 -/
def impl_lineBytes.f (k : Nat) (a0 : ByteArray) : Option (List Int × Bool) := (strings_Cut.f a0 (⟨#[32]⟩ : ByteArray)).bind fun bt226 => ((impl_OpOf.f k bt226.1).bind fun t229 => ((impl_readNumber.f k bt226.2.1 255).bind fun bt230 => (if bt226.1.toList = ([98, 121, 116, 101] : List UInt8) then (some ((([bt230.1] : List Int)), bt230.2)) else (if t229 < 0 then (some (([] : List Int), false)) else ((impl_OpLen.f k t229).bind fun t235 => (if t235 = 1 then (some ((([t229] : List Int)), !bt226.2.2)) else ((impl_OpLen.f k t229).bind fun t239 => (if t239 = 2 then (some ((([t229, bt230.1] : List Int)), bt230.2)) else ((impl_readNumber.f k bt226.2.1 65535).bind fun bt243 => (some ((([t229, Int.tmod bt243.1 256, wrap64 (Int.tdiv bt243.1 256)] : List Int)), bt243.2)))))))))))
set_option maxHeartbeats 8000000 in
set_option maxRecDepth 100000 in
theorem impl_lineBytes.calls (k : Nat) (a0 : ByteArray) (r1 : List Int) (r2 : Bool) (w : World) (h : impl_lineBytes.f k a0 = some (r1, r2)) (hT : Tabs w) :
    Calls Tryd.prog 28 #[.string a0] w fun e w' => ∃ v0_ : Value, e = .returned (.tuple #[v0_, .bool r2]) ∧ Kd.R (Kd.int .i64) 3 w' w.heap.size (fun _ => True) v0_ r1 ∧ Below w.heap.size w w' := by
  have HT := Aside0.mk hT
  clear hT
  have HB := Aside0.mk (Below.refl w.heap.size w)
  have H : ((strings_Cut.f a0 (⟨#[32]⟩ : ByteArray)).bind fun bt226 => ((impl_OpOf.f k bt226.1).bind fun t229 => ((impl_readNumber.f k bt226.2.1 255).bind fun bt230 => (if bt226.1.toList = ([98, 121, 116, 101] : List UInt8) then (some ((([bt230.1] : List Int)), bt230.2)) else (if t229 < 0 then (some (([] : List Int), false)) else ((impl_OpLen.f k t229).bind fun t235 => (if t235 = 1 then (some ((([t229] : List Int)), !bt226.2.2)) else ((impl_OpLen.f k t229).bind fun t239 => (if t239 = 2 then (some ((([t229, bt230.1] : List Int)), bt230.2)) else ((impl_readNumber.f k bt226.2.1 65535).bind fun bt243 => (some ((([t229, Int.tmod bt243.1 256, wrap64 (Int.tdiv bt243.1 256)] : List Int)), bt243.2)))))))))))) = some (r1, r2) := h
  clear h
  replace H := Option.bind_eq_some_iff.mp H
  obtain ⟨⟨t226, t227, t228⟩, A20, H⟩ := H
  replace H : ((impl_OpOf.f k t226).bind fun t229 => ((impl_readNumber.f k t227 255).bind fun bt230 => (if t226.toList = ([98, 121, 116, 101] : List UInt8) then (some ((([bt230.1] : List Int)), bt230.2)) else (if t229 < 0 then (some (([] : List Int), false)) else ((impl_OpLen.f k t229).bind fun t235 => (if t235 = 1 then (some ((([t229] : List Int)), !t228)) else ((impl_OpLen.f k t229).bind fun t239 => (if t239 = 2 then (some ((([t229, bt230.1] : List Int)), bt230.2)) else ((impl_readNumber.f k t227 65535).bind fun bt243 => (some ((([t229, Int.tmod bt243.1 256, wrap64 (Int.tdiv bt243.1 256)] : List Int)), bt243.2))))))))))) = some (r1, r2) := H
  have A2 := Aside0.mk A20
  clear A20
  replace H := Option.bind_eq_some_iff.mp H
  obtain ⟨t229, A30, H⟩ := H
  replace H : ((impl_readNumber.f k t227 255).bind fun bt230 => (if t226.toList = ([98, 121, 116, 101] : List UInt8) then (some ((([bt230.1] : List Int)), bt230.2)) else (if t229 < 0 then (some (([] : List Int), false)) else ((impl_OpLen.f k t229).bind fun t235 => (if t235 = 1 then (some ((([t229] : List Int)), !t228)) else ((impl_OpLen.f k t229).bind fun t239 => (if t239 = 2 then (some ((([t229, bt230.1] : List Int)), bt230.2)) else ((impl_readNumber.f k t227 65535).bind fun bt243 => (some ((([t229, Int.tmod bt243.1 256, wrap64 (Int.tdiv bt243.1 256)] : List Int)), bt243.2)))))))))) = some (r1, r2) := H
  have A3 := Aside0.mk A30
  clear A30
  replace H := Option.bind_eq_some_iff.mp H
  obtain ⟨⟨t230, t231⟩, A40, H⟩ := H
  replace H : (if t226.toList = ([98, 121, 116, 101] : List UInt8) then (some ((([t230] : List Int)), t231)) else (if t229 < 0 then (some (([] : List Int), false)) else ((impl_OpLen.f k t229).bind fun t235 => (if t235 = 1 then (some ((([t229] : List Int)), !t228)) else ((impl_OpLen.f k t229).bind fun t239 => (if t239 = 2 then (some ((([t229, t230] : List Int)), t231)) else ((impl_readNumber.f k t227 65535).bind fun bt243 => (some ((([t229, Int.tmod bt243.1 256, wrap64 (Int.tdiv bt243.1 256)] : List Int)), bt243.2))))))))) = some (r1, r2) := H
  have A4 := Aside0.mk A40
  clear A40
  by_cases c5 : t226.toList = ([98, 121, 116, 101] : List UInt8)
  · rw [if_pos c5] at H
    have c5b0 : (t226.toList == ([98, 121, 116, 101] : List UInt8)) = true := beq_iff_eq.mpr c5
    have c5b1 : (t226.toList != ([98, 121, 116, 101] : List UInt8)) = false := bne_eq_false_iff_eq.mpr c5
    clear c5
    obtain ⟨y232, hy232⟩ : ∃ y_ : List Int, y_ = (([t230] : List Int)) := ⟨_, rfl⟩
    replace H : (some (y232, t231)) = some (r1, r2) := by first | (rw [hy232]; with_reducible exact H) | (have H2_ := (Option.bind_some _ _).symm.trans H; rw [hy232]; with_reducible exact H2_) | (have H2_ := (Option.bind_some _ _).symm.trans H; with_reducible exact H2_) | with_reducible exact H | (rw [hy232]; exact H) | exact H
    have Ny232 := Aside0.mk hy232
    clear hy232
    simp only [Option.some.injEq, Prod.mk.injEq] at H
    obtain ⟨rfl, rfl⟩ := H
    go_enter Tryd.func28, Tryd.ntmps28
    go_wp2_with (first | ((with_reducible refine gate_callee (f := 55) rfl ?_); refine goesL_ (some 12) rfl rfl Tryd.func55 (by kernel_rfl) rfl #[.string a0, .string (⟨#[32]⟩ : ByteArray)] rfl (by (try simp only [List.map_toArray, List.map_cons, List.map_nil]); first | done | rfl | (simp only [List.length_drop, List.length_take]; rfl)) ?_; (with_reducible refine (strings_Cut.calls a0 (⟨#[32]⟩ : ByteArray) t226 t227 t228 _ A2.out ?tab).mono ?_); (case tab => exact HT.out.on (by repeat (first | (with_reducible first | exact HB.out | apply below_alloc | apply pw_below_drewN | apply below_drew1) | exact HB.out))); rintro e w' ⟨rfl, ⟨nd, rfl⟩⟩; refine ⟨_, rfl, ?_⟩) | ((with_reducible refine gate_callee (f := 56) rfl ?_); refine goesL_ (some 17) rfl rfl Tryd.func56 (by kernel_rfl) rfl #[.string t226] rfl (by (try simp only [List.map_toArray, List.map_cons, List.map_nil]); first | done | rfl | (simp only [List.length_drop, List.length_take]; rfl)) ?_; (with_reducible refine (impl_OpOf.calls k t226 t229 _ A3.out).mono ?_); rintro e w6 ⟨rfl, hb⟩; refine ⟨_, rfl, ?_⟩; have n0_ := Aside0.mk (below_step (by repeat (first | (with_reducible first | exact HB.out | apply below_alloc | apply pw_below_drewN | apply below_drew1) | exact HB.out)) hb); clear HB; have HB := n0_; clear n0_; (try clear hb); (try clear hb2); (try clear hk); (try clear hi)) | ((with_reducible refine gate_callee (f := 27) rfl ?_); refine goesL_ (some 20) rfl rfl Tryd.func27 (by kernel_rfl) rfl #[.string t227, .int .i64 255] rfl (by (try simp only [List.map_toArray, List.map_cons, List.map_nil]); first | done | rfl | (simp only [List.length_drop, List.length_take]; rfl)) ?_; (with_reducible refine (impl_readNumber.calls k t227 255 t230 t231 _ A4.out ?tab).mono ?_); (case tab => exact HT.out.on (by repeat (first | (with_reducible first | exact HB.out | apply below_alloc | apply pw_below_drewN | apply below_drew1) | exact HB.out))); rintro e w7 ⟨rfl, hb⟩; refine ⟨_, rfl, ?_⟩; have n0_ := Aside0.mk (below_step (by repeat (first | (with_reducible first | exact HB.out | apply below_alloc | apply pw_below_drewN | apply below_drew1) | exact HB.out)) hb); clear HB; have HB := n0_; clear n0_; (try clear hb); (try clear hb2); (try clear hk); (try clear hi)) | ((with_reducible refine gate_dst (N := 27) rfl ?_); refine Kd.R_lit (Kd.int .i64) _ 3 ?hg (N := 27) ?hd (xs := ([t230] : List Int)) (inner := [.int .i64 t230]) (ok := fun _ => True) (okp := fun _ => True) ?hr ?hp (fun _ hk => hk) trivial (Below.refl _ _) (Nat.le_refl _) (by simp) ?_; (case hd => rfl); (case hg => rfl); (case hr => first | (go_simp; done) | (go_simp; rfl)); (case hp => exact (Reps.one (show Kd.M (Kd.int .i64) _ _ _ t230 [.int .i64 t230] from rfl) (Reps.none _ _))); intro v233 w8 ho9 hb hg_ hnew_; clear hg_ hnew_; (first | rw [← Ny232.out] at ho9 | (simp only [Int.reduceToNat] at ho9; rw [← Ny232.out] at ho9)); have n0_ := Aside0.mk (Kd.R_lower ho9 (below_size (by repeat (first | (with_reducible first | exact HB.out | apply below_alloc | apply pw_below_drewN | apply below_drew1) | exact HB.out)))); have n1_ := Aside0.mk (below_step (by repeat (first | (with_reducible first | exact HB.out | apply below_alloc | apply pw_below_drewN | apply below_drew1) | exact HB.out)) hb); clear HB; have HO234 := n0_; have HB := n1_; clear n0_ n1_; clear hb ho9))
    go_ret2
    exact ⟨_, by first | rfl | (simp [errW_none, errW_some] <;> rfl) | (simp [*, errW_none, errW_some] <;> rfl), by (with_reducible repeat (first | apply Kd.R_alloc | apply Kd.R_drewN | apply Kd.R_drew)); exact HO234.out, by repeat (first | (with_reducible first | exact HB.out | apply below_alloc | apply pw_below_drewN | apply below_drew1) | exact HB.out)⟩
  · rw [if_neg c5] at H
    have c5b0 : (t226.toList == ([98, 121, 116, 101] : List UInt8)) = false := beq_eq_false_iff_ne.mpr c5
    have c5b1 : (t226.toList != ([98, 121, 116, 101] : List UInt8)) = true := bne_iff_ne.mpr c5
    by_cases c10 : t229 < 0
    · rw [if_pos c10] at H
      have c10b0 : decide (t229 < 0) = true := decide_eq_true c10
      clear c10
      simp only [Option.some.injEq, Prod.mk.injEq] at H
      obtain ⟨rfl, rfl⟩ := H
      go_enter Tryd.func28, Tryd.ntmps28
      go_wp2_with (first | ((with_reducible refine gate_callee (f := 55) rfl ?_); refine goesL_ (some 12) rfl rfl Tryd.func55 (by kernel_rfl) rfl #[.string a0, .string (⟨#[32]⟩ : ByteArray)] rfl (by (try simp only [List.map_toArray, List.map_cons, List.map_nil]); first | done | rfl | (simp only [List.length_drop, List.length_take]; rfl)) ?_; (with_reducible refine (strings_Cut.calls a0 (⟨#[32]⟩ : ByteArray) t226 t227 t228 _ A2.out ?tab).mono ?_); (case tab => exact HT.out.on (by repeat (first | (with_reducible first | exact HB.out | apply below_alloc | apply pw_below_drewN | apply below_drew1) | exact HB.out))); rintro e w' ⟨rfl, ⟨nd, rfl⟩⟩; refine ⟨_, rfl, ?_⟩) | ((with_reducible refine gate_callee (f := 56) rfl ?_); refine goesL_ (some 17) rfl rfl Tryd.func56 (by kernel_rfl) rfl #[.string t226] rfl (by (try simp only [List.map_toArray, List.map_cons, List.map_nil]); first | done | rfl | (simp only [List.length_drop, List.length_take]; rfl)) ?_; (with_reducible refine (impl_OpOf.calls k t226 t229 _ A3.out).mono ?_); rintro e w11 ⟨rfl, hb⟩; refine ⟨_, rfl, ?_⟩; have n0_ := Aside0.mk (below_step (by repeat (first | (with_reducible first | exact HB.out | apply below_alloc | apply pw_below_drewN | apply below_drew1) | exact HB.out)) hb); clear HB; have HB := n0_; clear n0_; (try clear hb); (try clear hb2); (try clear hk); (try clear hi)) | ((with_reducible refine gate_callee (f := 27) rfl ?_); refine goesL_ (some 20) rfl rfl Tryd.func27 (by kernel_rfl) rfl #[.string t227, .int .i64 255] rfl (by (try simp only [List.map_toArray, List.map_cons, List.map_nil]); first | done | rfl | (simp only [List.length_drop, List.length_take]; rfl)) ?_; (with_reducible refine (impl_readNumber.calls k t227 255 t230 t231 _ A4.out ?tab).mono ?_); (case tab => exact HT.out.on (by repeat (first | (with_reducible first | exact HB.out | apply below_alloc | apply pw_below_drewN | apply below_drew1) | exact HB.out))); rintro e w12 ⟨rfl, hb⟩; refine ⟨_, rfl, ?_⟩; have n0_ := Aside0.mk (below_step (by repeat (first | (with_reducible first | exact HB.out | apply below_alloc | apply pw_below_drewN | apply below_drew1) | exact HB.out)) hb); clear HB; have HB := n0_; clear n0_; (try clear hb); (try clear hb2); (try clear hk); (try clear hi)))
      go_ret2
      exact ⟨_, by first | rfl | (simp [errW_none, errW_some] <;> rfl) | (simp [*, errW_none, errW_some] <;> rfl), by first | exact Kd.R_nil _ _ _ _ _ | exact Kd.N_nil _ _ _ _ _ | exact Kd.V_nil _ _ _ _ _ | exact Kd.Q_nil _ _ _ _ _ | exact Kd.S_nil _ _ _ _ _, by repeat (first | (with_reducible first | exact HB.out | apply below_alloc | apply pw_below_drewN | apply below_drew1) | exact HB.out)⟩
    · rw [if_neg c10] at H
      have c10b0 : decide (t229 < 0) = false := decide_eq_false c10
      clear c10
      replace H := Option.bind_eq_some_iff.mp H
      obtain ⟨t235, A130, H⟩ := H
      replace H : (if t235 = 1 then (some ((([t229] : List Int)), !t228)) else ((impl_OpLen.f k t229).bind fun t239 => (if t239 = 2 then (some ((([t229, t230] : List Int)), t231)) else ((impl_readNumber.f k t227 65535).bind fun bt243 => (some ((([t229, Int.tmod bt243.1 256, wrap64 (Int.tdiv bt243.1 256)] : List Int)), bt243.2)))))) = some (r1, r2) := H
      have A13 := Aside0.mk A130
      clear A130
      by_cases c14 : t235 = 1
      · rw [if_pos c14] at H
        have c14b0 : (t235 == 1) = true := beq_iff_eq.mpr c14
        have c14b1 : (t235 != 1) = false := bne_eq_false_iff_eq.mpr c14
        clear c14
        obtain ⟨y236, hy236⟩ : ∃ y_ : List Int, y_ = (([t229] : List Int)) := ⟨_, rfl⟩
        replace H : (some (y236, !t228)) = some (r1, r2) := by first | (rw [hy236]; with_reducible exact H) | (have H2_ := (Option.bind_some _ _).symm.trans H; rw [hy236]; with_reducible exact H2_) | (have H2_ := (Option.bind_some _ _).symm.trans H; with_reducible exact H2_) | with_reducible exact H | (rw [hy236]; exact H) | exact H
        have Ny236 := Aside0.mk hy236
        clear hy236
        simp only [Option.some.injEq, Prod.mk.injEq] at H
        obtain ⟨rfl, rfl⟩ := H
        go_enter Tryd.func28, Tryd.ntmps28
        go_wp2_with (first | ((with_reducible refine gate_callee (f := 55) rfl ?_); refine goesL_ (some 12) rfl rfl Tryd.func55 (by kernel_rfl) rfl #[.string a0, .string (⟨#[32]⟩ : ByteArray)] rfl (by (try simp only [List.map_toArray, List.map_cons, List.map_nil]); first | done | rfl | (simp only [List.length_drop, List.length_take]; rfl)) ?_; (with_reducible refine (strings_Cut.calls a0 (⟨#[32]⟩ : ByteArray) t226 t227 t228 _ A2.out ?tab).mono ?_); (case tab => exact HT.out.on (by repeat (first | (with_reducible first | exact HB.out | apply below_alloc | apply pw_below_drewN | apply below_drew1) | exact HB.out))); rintro e w' ⟨rfl, ⟨nd, rfl⟩⟩; refine ⟨_, rfl, ?_⟩) | ((with_reducible refine gate_callee (f := 56) rfl ?_); refine goesL_ (some 17) rfl rfl Tryd.func56 (by kernel_rfl) rfl #[.string t226] rfl (by (try simp only [List.map_toArray, List.map_cons, List.map_nil]); first | done | rfl | (simp only [List.length_drop, List.length_take]; rfl)) ?_; (with_reducible refine (impl_OpOf.calls k t226 t229 _ A3.out).mono ?_); rintro e w15 ⟨rfl, hb⟩; refine ⟨_, rfl, ?_⟩; have n0_ := Aside0.mk (below_step (by repeat (first | (with_reducible first | exact HB.out | apply below_alloc | apply pw_below_drewN | apply below_drew1) | exact HB.out)) hb); clear HB; have HB := n0_; clear n0_; (try clear hb); (try clear hb2); (try clear hk); (try clear hi)) | ((with_reducible refine gate_callee (f := 27) rfl ?_); refine goesL_ (some 20) rfl rfl Tryd.func27 (by kernel_rfl) rfl #[.string t227, .int .i64 255] rfl (by (try simp only [List.map_toArray, List.map_cons, List.map_nil]); first | done | rfl | (simp only [List.length_drop, List.length_take]; rfl)) ?_; (with_reducible refine (impl_readNumber.calls k t227 255 t230 t231 _ A4.out ?tab).mono ?_); (case tab => exact HT.out.on (by repeat (first | (with_reducible first | exact HB.out | apply below_alloc | apply pw_below_drewN | apply below_drew1) | exact HB.out))); rintro e w16 ⟨rfl, hb⟩; refine ⟨_, rfl, ?_⟩; have n0_ := Aside0.mk (below_step (by repeat (first | (with_reducible first | exact HB.out | apply below_alloc | apply pw_below_drewN | apply below_drew1) | exact HB.out)) hb); clear HB; have HB := n0_; clear n0_; (try clear hb); (try clear hb2); (try clear hk); (try clear hi)) | ((with_reducible refine gate_callee (f := 37) rfl ?_); refine goesL_ (some 34) rfl rfl Tryd.func37 (by kernel_rfl) rfl #[.int .i64 t229] rfl (by (try simp only [List.map_toArray, List.map_cons, List.map_nil]); first | done | rfl | (simp only [List.length_drop, List.length_take]; rfl)) ?_; (with_reducible refine (impl_OpLen.calls k t229 t235 _ A13.out).mono ?_); rintro e w' ⟨rfl, ⟨nd, rfl⟩⟩; refine ⟨_, rfl, ?_⟩) | ((with_reducible refine gate_dst (N := 37) rfl ?_); refine Kd.R_lit (Kd.int .i64) _ 3 ?hg (N := 37) ?hd (xs := ([t229] : List Int)) (inner := [.int .i64 t229]) (ok := fun _ => True) (okp := fun _ => True) ?hr ?hp (fun _ hk => hk) trivial (Below.refl _ _) (Nat.le_refl _) (by simp) ?_; (case hd => rfl); (case hg => rfl); (case hr => first | (go_simp; done) | (go_simp; rfl)); (case hp => exact (Reps.one (show Kd.M (Kd.int .i64) _ _ _ t229 [.int .i64 t229] from rfl) (Reps.none _ _))); intro v237 w17 ho18 hb hg_ hnew_; clear hg_ hnew_; (first | rw [← Ny236.out] at ho18 | (simp only [Int.reduceToNat] at ho18; rw [← Ny236.out] at ho18)); have n0_ := Aside0.mk (Kd.R_lower ho18 (below_size (by repeat (first | (with_reducible first | exact HB.out | apply below_alloc | apply pw_below_drewN | apply below_drew1) | exact HB.out)))); have n1_ := Aside0.mk (below_step (by repeat (first | (with_reducible first | exact HB.out | apply below_alloc | apply pw_below_drewN | apply below_drew1) | exact HB.out)) hb); clear HB; have HO238 := n0_; have HB := n1_; clear n0_ n1_; clear hb ho18))
        go_ret2
        exact ⟨_, by first | rfl | (simp [errW_none, errW_some] <;> rfl) | (simp [*, errW_none, errW_some] <;> rfl), by (with_reducible repeat (first | apply Kd.R_alloc | apply Kd.R_drewN | apply Kd.R_drew)); exact HO238.out, by repeat (first | (with_reducible first | exact HB.out | apply below_alloc | apply pw_below_drewN | apply below_drew1) | exact HB.out)⟩
      · rw [if_neg c14] at H
        have c14b0 : (t235 == 1) = false := beq_eq_false_iff_ne.mpr c14
        have c14b1 : (t235 != 1) = true := bne_iff_ne.mpr c14
        replace H := Option.bind_eq_some_iff.mp H
        obtain ⟨t239, A190, H⟩ := H
        replace H : (if t239 = 2 then (some ((([t229, t230] : List Int)), t231)) else ((impl_readNumber.f k t227 65535).bind fun bt243 => (some ((([t229, Int.tmod bt243.1 256, wrap64 (Int.tdiv bt243.1 256)] : List Int)), bt243.2)))) = some (r1, r2) := H
        have A19 := Aside0.mk A190
        clear A190
        by_cases c20 : t239 = 2
        · rw [if_pos c20] at H
          have c20b0 : (t239 == 2) = true := beq_iff_eq.mpr c20
          have c20b1 : (t239 != 2) = false := bne_eq_false_iff_eq.mpr c20
          clear c20
          obtain ⟨y240, hy240⟩ : ∃ y_ : List Int, y_ = (([t229, t230] : List Int)) := ⟨_, rfl⟩
          replace H : (some (y240, t231)) = some (r1, r2) := by first | (rw [hy240]; with_reducible exact H) | (have H2_ := (Option.bind_some _ _).symm.trans H; rw [hy240]; with_reducible exact H2_) | (have H2_ := (Option.bind_some _ _).symm.trans H; with_reducible exact H2_) | with_reducible exact H | (rw [hy240]; exact H) | exact H
          have Ny240 := Aside0.mk hy240
          clear hy240
          simp only [Option.some.injEq, Prod.mk.injEq] at H
          obtain ⟨rfl, rfl⟩ := H
          go_enter Tryd.func28, Tryd.ntmps28
          go_wp2_with (first | ((with_reducible refine gate_callee (f := 55) rfl ?_); refine goesL_ (some 12) rfl rfl Tryd.func55 (by kernel_rfl) rfl #[.string a0, .string (⟨#[32]⟩ : ByteArray)] rfl (by (try simp only [List.map_toArray, List.map_cons, List.map_nil]); first | done | rfl | (simp only [List.length_drop, List.length_take]; rfl)) ?_; (with_reducible refine (strings_Cut.calls a0 (⟨#[32]⟩ : ByteArray) t226 t227 t228 _ A2.out ?tab).mono ?_); (case tab => exact HT.out.on (by repeat (first | (with_reducible first | exact HB.out | apply below_alloc | apply pw_below_drewN | apply below_drew1) | exact HB.out))); rintro e w' ⟨rfl, ⟨nd, rfl⟩⟩; refine ⟨_, rfl, ?_⟩) | ((with_reducible refine gate_callee (f := 56) rfl ?_); refine goesL_ (some 17) rfl rfl Tryd.func56 (by kernel_rfl) rfl #[.string t226] rfl (by (try simp only [List.map_toArray, List.map_cons, List.map_nil]); first | done | rfl | (simp only [List.length_drop, List.length_take]; rfl)) ?_; (with_reducible refine (impl_OpOf.calls k t226 t229 _ A3.out).mono ?_); rintro e w21 ⟨rfl, hb⟩; refine ⟨_, rfl, ?_⟩; have n0_ := Aside0.mk (below_step (by repeat (first | (with_reducible first | exact HB.out | apply below_alloc | apply pw_below_drewN | apply below_drew1) | exact HB.out)) hb); clear HB; have HB := n0_; clear n0_; (try clear hb); (try clear hb2); (try clear hk); (try clear hi)) | ((with_reducible refine gate_callee (f := 27) rfl ?_); refine goesL_ (some 20) rfl rfl Tryd.func27 (by kernel_rfl) rfl #[.string t227, .int .i64 255] rfl (by (try simp only [List.map_toArray, List.map_cons, List.map_nil]); first | done | rfl | (simp only [List.length_drop, List.length_take]; rfl)) ?_; (with_reducible refine (impl_readNumber.calls k t227 255 t230 t231 _ A4.out ?tab).mono ?_); (case tab => exact HT.out.on (by repeat (first | (with_reducible first | exact HB.out | apply below_alloc | apply pw_below_drewN | apply below_drew1) | exact HB.out))); rintro e w22 ⟨rfl, hb⟩; refine ⟨_, rfl, ?_⟩; have n0_ := Aside0.mk (below_step (by repeat (first | (with_reducible first | exact HB.out | apply below_alloc | apply pw_below_drewN | apply below_drew1) | exact HB.out)) hb); clear HB; have HB := n0_; clear n0_; (try clear hb); (try clear hb2); (try clear hk); (try clear hi)) | ((with_reducible refine gate_callee (f := 37) rfl ?_); refine goesL_ (some 34) rfl rfl Tryd.func37 (by kernel_rfl) rfl #[.int .i64 t229] rfl (by (try simp only [List.map_toArray, List.map_cons, List.map_nil]); first | done | rfl | (simp only [List.length_drop, List.length_take]; rfl)) ?_; (with_reducible refine (impl_OpLen.calls k t229 t235 _ A13.out).mono ?_); rintro e w' ⟨rfl, ⟨nd, rfl⟩⟩; refine ⟨_, rfl, ?_⟩) | ((with_reducible refine gate_callee (f := 37) rfl ?_); refine goesL_ (some 42) rfl rfl Tryd.func37 (by kernel_rfl) rfl #[.int .i64 t229] rfl (by (try simp only [List.map_toArray, List.map_cons, List.map_nil]); first | done | rfl | (simp only [List.length_drop, List.length_take]; rfl)) ?_; (with_reducible refine (impl_OpLen.calls k t229 t239 _ A19.out).mono ?_); rintro e w' ⟨rfl, ⟨nd, rfl⟩⟩; refine ⟨_, rfl, ?_⟩) | ((with_reducible refine gate_dst (N := 46) rfl ?_); refine Kd.R_lit (Kd.int .i64) _ 3 ?hg (N := 46) ?hd (xs := ([t229, t230] : List Int)) (inner := [.int .i64 t229, .int .i64 t230]) (ok := fun _ => True) (okp := fun _ => True) ?hr ?hp (fun _ hk => hk) trivial (Below.refl _ _) (Nat.le_refl _) (by simp) ?_; (case hd => rfl); (case hg => rfl); (case hr => first | (go_simp; done) | (go_simp; rfl)); (case hp => exact (Reps.one (show Kd.M (Kd.int .i64) _ _ _ t229 [.int .i64 t229] from rfl) (Reps.one (show Kd.M (Kd.int .i64) _ _ _ t230 [.int .i64 t230] from rfl) (Reps.none _ _)))); intro v241 w23 ho24 hb hg_ hnew_; clear hg_ hnew_; (first | rw [← Ny240.out] at ho24 | (simp only [Int.reduceToNat] at ho24; rw [← Ny240.out] at ho24)); have n0_ := Aside0.mk (Kd.R_lower ho24 (below_size (by repeat (first | (with_reducible first | exact HB.out | apply below_alloc | apply pw_below_drewN | apply below_drew1) | exact HB.out)))); have n1_ := Aside0.mk (below_step (by repeat (first | (with_reducible first | exact HB.out | apply below_alloc | apply pw_below_drewN | apply below_drew1) | exact HB.out)) hb); clear HB; have HO242 := n0_; have HB := n1_; clear n0_ n1_; clear hb ho24))
          go_ret2
          exact ⟨_, by first | rfl | (simp [errW_none, errW_some] <;> rfl) | (simp [*, errW_none, errW_some] <;> rfl), by (with_reducible repeat (first | apply Kd.R_alloc | apply Kd.R_drewN | apply Kd.R_drew)); exact HO242.out, by repeat (first | (with_reducible first | exact HB.out | apply below_alloc | apply pw_below_drewN | apply below_drew1) | exact HB.out)⟩
        · rw [if_neg c20] at H
          have c20b0 : (t239 == 2) = false := beq_eq_false_iff_ne.mpr c20
          have c20b1 : (t239 != 2) = true := bne_iff_ne.mpr c20
          replace H := Option.bind_eq_some_iff.mp H
          obtain ⟨⟨t243, t244⟩, A250, H⟩ := H
          replace H : (some ((([t229, Int.tmod t243 256, wrap64 (Int.tdiv t243 256)] : List Int)), t244)) = some (r1, r2) := H
          have A25 := Aside0.mk A250
          clear A250
          obtain ⟨y245, hy245⟩ : ∃ y_ : List Int, y_ = (([t229, Int.tmod t243 256, wrap64 (Int.tdiv t243 256)] : List Int)) := ⟨_, rfl⟩
          replace H : (some (y245, t244)) = some (r1, r2) := by first | (rw [hy245]; with_reducible exact H) | (have H2_ := (Option.bind_some _ _).symm.trans H; rw [hy245]; with_reducible exact H2_) | (have H2_ := (Option.bind_some _ _).symm.trans H; with_reducible exact H2_) | with_reducible exact H | (rw [hy245]; exact H) | exact H
          have Ny245 := Aside0.mk hy245
          clear hy245
          simp only [Option.some.injEq, Prod.mk.injEq] at H
          obtain ⟨rfl, rfl⟩ := H
          go_enter Tryd.func28, Tryd.ntmps28
          go_wp2_with (first | ((with_reducible refine gate_callee (f := 55) rfl ?_); refine goesL_ (some 12) rfl rfl Tryd.func55 (by kernel_rfl) rfl #[.string a0, .string (⟨#[32]⟩ : ByteArray)] rfl (by (try simp only [List.map_toArray, List.map_cons, List.map_nil]); first | done | rfl | (simp only [List.length_drop, List.length_take]; rfl)) ?_; (with_reducible refine (strings_Cut.calls a0 (⟨#[32]⟩ : ByteArray) t226 t227 t228 _ A2.out ?tab).mono ?_); (case tab => exact HT.out.on (by repeat (first | (with_reducible first | exact HB.out | apply below_alloc | apply pw_below_drewN | apply below_drew1) | exact HB.out))); rintro e w' ⟨rfl, ⟨nd, rfl⟩⟩; refine ⟨_, rfl, ?_⟩) | ((with_reducible refine gate_callee (f := 56) rfl ?_); refine goesL_ (some 17) rfl rfl Tryd.func56 (by kernel_rfl) rfl #[.string t226] rfl (by (try simp only [List.map_toArray, List.map_cons, List.map_nil]); first | done | rfl | (simp only [List.length_drop, List.length_take]; rfl)) ?_; (with_reducible refine (impl_OpOf.calls k t226 t229 _ A3.out).mono ?_); rintro e w26 ⟨rfl, hb⟩; refine ⟨_, rfl, ?_⟩; have n0_ := Aside0.mk (below_step (by repeat (first | (with_reducible first | exact HB.out | apply below_alloc | apply pw_below_drewN | apply below_drew1) | exact HB.out)) hb); clear HB; have HB := n0_; clear n0_; (try clear hb); (try clear hb2); (try clear hk); (try clear hi)) | ((with_reducible refine gate_callee (f := 27) rfl ?_); refine goesL_ (some 20) rfl rfl Tryd.func27 (by kernel_rfl) rfl #[.string t227, .int .i64 255] rfl (by (try simp only [List.map_toArray, List.map_cons, List.map_nil]); first | done | rfl | (simp only [List.length_drop, List.length_take]; rfl)) ?_; (with_reducible refine (impl_readNumber.calls k t227 255 t230 t231 _ A4.out ?tab).mono ?_); (case tab => exact HT.out.on (by repeat (first | (with_reducible first | exact HB.out | apply below_alloc | apply pw_below_drewN | apply below_drew1) | exact HB.out))); rintro e w27 ⟨rfl, hb⟩; refine ⟨_, rfl, ?_⟩; have n0_ := Aside0.mk (below_step (by repeat (first | (with_reducible first | exact HB.out | apply below_alloc | apply pw_below_drewN | apply below_drew1) | exact HB.out)) hb); clear HB; have HB := n0_; clear n0_; (try clear hb); (try clear hb2); (try clear hk); (try clear hi)) | ((with_reducible refine gate_callee (f := 37) rfl ?_); refine goesL_ (some 34) rfl rfl Tryd.func37 (by kernel_rfl) rfl #[.int .i64 t229] rfl (by (try simp only [List.map_toArray, List.map_cons, List.map_nil]); first | done | rfl | (simp only [List.length_drop, List.length_take]; rfl)) ?_; (with_reducible refine (impl_OpLen.calls k t229 t235 _ A13.out).mono ?_); rintro e w' ⟨rfl, ⟨nd, rfl⟩⟩; refine ⟨_, rfl, ?_⟩) | ((with_reducible refine gate_callee (f := 37) rfl ?_); refine goesL_ (some 42) rfl rfl Tryd.func37 (by kernel_rfl) rfl #[.int .i64 t229] rfl (by (try simp only [List.map_toArray, List.map_cons, List.map_nil]); first | done | rfl | (simp only [List.length_drop, List.length_take]; rfl)) ?_; (with_reducible refine (impl_OpLen.calls k t229 t239 _ A19.out).mono ?_); rintro e w' ⟨rfl, ⟨nd, rfl⟩⟩; refine ⟨_, rfl, ?_⟩) | ((with_reducible refine gate_callee (f := 27) rfl ?_); refine goesL_ (some 50) rfl rfl Tryd.func27 (by kernel_rfl) rfl #[.string t227, .int .i64 65535] rfl (by (try simp only [List.map_toArray, List.map_cons, List.map_nil]); first | done | rfl | (simp only [List.length_drop, List.length_take]; rfl)) ?_; (with_reducible refine (impl_readNumber.calls k t227 65535 t243 t244 _ A25.out ?tab).mono ?_); (case tab => exact HT.out.on (by repeat (first | (with_reducible first | exact HB.out | apply below_alloc | apply pw_below_drewN | apply below_drew1) | exact HB.out))); rintro e w28 ⟨rfl, hb⟩; refine ⟨_, rfl, ?_⟩; have n0_ := Aside0.mk (below_step (by repeat (first | (with_reducible first | exact HB.out | apply below_alloc | apply pw_below_drewN | apply below_drew1) | exact HB.out)) hb); clear HB; have HB := n0_; clear n0_; (try clear hb); (try clear hb2); (try clear hk); (try clear hi)) | ((with_reducible refine gate_dst (N := 58) rfl ?_); refine Kd.R_lit (Kd.int .i64) _ 3 ?hg (N := 58) ?hd (xs := ([t229, Int.tmod t243 256, wrap64 (Int.tdiv t243 256)] : List Int)) (inner := [.int .i64 t229, .int .i64 (Int.tmod t243 256), .int .i64 (wrap64 (Int.tdiv t243 256))]) (ok := fun _ => True) (okp := fun _ => True) ?hr ?hp (fun _ hk => hk) trivial (Below.refl _ _) (Nat.le_refl _) (by simp) ?_; (case hd => rfl); (case hg => rfl); (case hr => first | (go_simp; done) | (go_simp; rfl)); (case hp => exact (Reps.one (show Kd.M (Kd.int .i64) _ _ _ t229 [.int .i64 t229] from rfl) (Reps.one (show Kd.M (Kd.int .i64) _ _ _ (Int.tmod t243 256) [.int .i64 (Int.tmod t243 256)] from rfl) (Reps.one (show Kd.M (Kd.int .i64) _ _ _ (wrap64 (Int.tdiv t243 256)) [.int .i64 (wrap64 (Int.tdiv t243 256))] from rfl) (Reps.none _ _))))); intro v246 w29 ho30 hb hg_ hnew_; clear hg_ hnew_; (first | rw [← Ny245.out] at ho30 | (simp only [Int.reduceToNat] at ho30; rw [← Ny245.out] at ho30)); have n0_ := Aside0.mk (Kd.R_lower ho30 (below_size (by repeat (first | (with_reducible first | exact HB.out | apply below_alloc | apply pw_below_drewN | apply below_drew1) | exact HB.out)))); have n1_ := Aside0.mk (below_step (by repeat (first | (with_reducible first | exact HB.out | apply below_alloc | apply pw_below_drewN | apply below_drew1) | exact HB.out)) hb); clear HB; have HO247 := n0_; have HB := n1_; clear n0_ n1_; clear hb ho30))
          go_ret2
          exact ⟨_, by first | rfl | (simp [errW_none, errW_some] <;> rfl) | (simp [*, errW_none, errW_some] <;> rfl), by (with_reducible repeat (first | apply Kd.R_alloc | apply Kd.R_drewN | apply Kd.R_drew)); exact HO247.out, by repeat (first | (with_reducible first | exact HB.out | apply below_alloc | apply pw_below_drewN | apply below_drew1) | exact HB.out)⟩

/-! ### impl_Assemble: function 9 -/
mutual
def impl_Assemble.l0 : Nat → List Int → Int → List ByteArray → Int → Int → Option (List Int × Int)
  | 0, _, _, _, _, _ => none
  | k + 1, x4, x5, x21, x22, x23 => if x23 < x22 then (if 0 ≤ x23 then (if x23 < (x21.length : Int) then (if (rdOf ByteArray.empty x21 x23).toList = ([] : List UInt8) then (impl_Assemble.l0 k x4 x5 x21 x22 (wrap64 (x23 + 1))) else ((strings_CutPrefix.f (rdOf ByteArray.empty x21 x23) (⟨#[97, 116, 32]⟩ : ByteArray)).bind fun bt255 => (if bt255.2 = true then ((impl_readNumber.f k bt255.1 255).bind fun bt257 => (if bt257.2 = true then (impl_Assemble.l0 k x4 bt257.1 x21 x22 (wrap64 (x23 + 1))) else (some (([] : List Int), wrap64 (x23 + 1))))) else ((impl_lineBytes.f k (rdOf ByteArray.empty x21 x23)).bind fun bt259 => (if bt259.2 = true then (impl_Assemble.l1 k x4 x5 x21 x22 x23 bt259.1 (bt259.1.length : Int) 0) else (some (([] : List Int), wrap64 (x23 + 1)))))))) else (none)) else (none)) else (some (x4, 0))
def impl_Assemble.l1 : Nat → List Int → Int → List ByteArray → Int → Int → List Int → Int → Int → Option (List Int × Int)
  | 0, _, _, _, _, _, _, _, _ => none
  | k + 1, x4, x5, x21, x22, x23, x55, x56, x57 => if x57 < x56 then (if 0 ≤ x57 then (if x57 < (x55.length : Int) then (if 0 ≤ x5 then (if x5 < (x4.length : Int) then (impl_Assemble.l1 k (x4.set (x5 : Int).toNat (rd x55 x57)) (Int.tmod (wrap64 (x5 + 1)) 256) x21 x22 x23 x55 x56 (wrap64 (x57 + 1))) else (none)) else (none)) else (none)) else (none)) else (impl_Assemble.l0 k x4 x5 x21 x22 (wrap64 (x23 + 1)))
end
def impl_Assemble.f (k : Nat) (a0 : ByteArray) : Option (List Int × Int) := if (a0.size : Int) > 3000 then (some (([] : List Int), (-1))) else (if 256 ≤ 35184372088832 then ((impl_linesOf.f a0).bind fun t251 => (impl_Assemble.l0 k (List.replicate 256 0) 0 t251 (t251.length : Int) 0)) else (none))
set_option maxHeartbeats 8000000 in
set_option maxRecDepth 100000 in
theorem impl_Assemble.calls (k : Nat) (a0 : ByteArray) (r1 : List Int) (r2 : Int) (w : World) (h : impl_Assemble.f k a0 = some (r1, r2)) (hT : Tabs w) :
    Calls Tryd.prog 9 #[.string a0] w fun e w' => ∃ v0_ : Value, e = .returned (.tuple #[v0_, .int .i64 r2]) ∧ Kd.R (Kd.int .i64) 3 w' w.heap.size (fun _ => True) v0_ r1 ∧ Below w.heap.size w w' := by
  have HT := Aside0.mk hT
  clear hT
  have HB := Aside0.mk (Below.refl w.heap.size w)
  have H : (if (a0.size : Int) > 3000 then (some (([] : List Int), (-1))) else (if 256 ≤ 35184372088832 then ((impl_linesOf.f a0).bind fun t251 => (impl_Assemble.l0 k (List.replicate 256 0) 0 t251 (t251.length : Int) 0)) else (none))) = some (r1, r2) := h
  clear h
  by_cases c2 : (a0.size : Int) > 3000
  · rw [if_pos c2] at H
    have c2b0 : decide (3000 < (a0.size : Int)) = true := decide_eq_true c2
    have c2b1 : decide (3000 < a0.size) = true := decide_eq_true (by omega)
    clear c2
    simp only [Option.some.injEq, Prod.mk.injEq] at H
    obtain ⟨rfl, rfl⟩ := H
    go_enter Tryd.func9, Tryd.ntmps9
    go_wp2
    go_ret2
    exact ⟨_, by first | rfl | (simp [errW_none, errW_some] <;> rfl) | (simp [*, errW_none, errW_some] <;> rfl), by first | exact Kd.R_nil _ _ _ _ _ | exact Kd.N_nil _ _ _ _ _ | exact Kd.V_nil _ _ _ _ _ | exact Kd.Q_nil _ _ _ _ _ | exact Kd.S_nil _ _ _ _ _, by repeat (first | (with_reducible first | exact HB.out | apply below_alloc | apply pw_below_drewN | apply below_drew1) | exact HB.out)⟩
  · rw [if_neg c2] at H
    have c2b0 : decide (3000 < (a0.size : Int)) = false := decide_eq_false c2
    have c2b1 : decide (3000 < a0.size) = false := decide_eq_false (by omega)
    clear c2
    by_cases c3 : 256 ≤ 35184372088832
    · rw [if_pos c3] at H
      have c3b0 := eq_true c3
      have c3b1 : decide (256 ≤ 35184372088832) = true := decide_eq_true c3
      clear c3
      obtain ⟨y248, hy248⟩ : ∃ y_ : List Int, y_ = (List.replicate 256 0) := ⟨_, rfl⟩
      replace H : ((impl_linesOf.f a0).bind fun t251 => (impl_Assemble.l0 k y248 0 t251 (t251.length : Int) 0)) = some (r1, r2) := by first | (rw [hy248]; with_reducible exact H) | (have H2_ := (Option.bind_some _ _).symm.trans H; rw [hy248]; with_reducible exact H2_) | (have H2_ := (Option.bind_some _ _).symm.trans H; with_reducible exact H2_) | with_reducible exact H | (rw [hy248]; exact H) | exact H
      have Ny248 := Aside0.mk hy248
      clear hy248
      replace H := Option.bind_eq_some_iff.mp H
      obtain ⟨t251, A40, H⟩ := H
      replace H : (impl_Assemble.l0 k y248 0 t251 (t251.length : Int) 0) = some (r1, r2) := H
      have A4 := Aside0.mk A40
      clear A40
      have H' := Aside0.mk H
      clear H
      go_enter Tryd.func9, Tryd.ntmps9
      go_wp2_with (first | ((with_reducible refine gate_dst (N := 19) rfl ?_); refine Kd.R_make (Kd.int .i64) _ 3 rfl (N := 19) rfl 22 _ _ rfl 256 rfl rfl Tryd.underlying22 (.int .i64 0) 8 info3 rfl (by decide) (by omega) 0 (ok := fun _ => True) (okp := fun _ => True) rfl (fun _ hk => hk) trivial (by omega) (by omega) (Below.refl _ _) (Nat.le_refl _) ?_; intro v249 w5 ho6 hb hg_ hnew_; clear hg_ hnew_; (first | rw [← Ny248.out] at ho6 | (simp only [Int.reduceToNat] at ho6; rw [← Ny248.out] at ho6)); have n0_ := Aside0.mk (Kd.R_lower ho6 (below_size (by repeat (first | (with_reducible first | exact HB.out | apply below_alloc | apply pw_below_drewN | apply below_drew1) | exact HB.out)))); have n1_ := Aside0.mk (below_step (by repeat (first | (with_reducible first | exact HB.out | apply below_alloc | apply pw_below_drewN | apply below_drew1) | exact HB.out)) hb); clear HB; have HO250 := n0_; have HB := n1_; clear n0_ n1_; clear hb ho6) | ((with_reducible refine gate_callee (f := 25) rfl ?_); refine goesL_ (some 21) rfl rfl Tryd.func25 (by kernel_rfl) rfl #[.string a0] rfl (by (try simp only [List.map_toArray, List.map_cons, List.map_nil]); first | done | rfl | (simp only [List.length_drop, List.length_take]; rfl)) ?_; (with_reducible refine (impl_linesOf.calls a0 t251 _ A4.out ?tab).mono ?_); (case tab => exact HT.out.on (by repeat (first | (with_reducible first | exact HB.out | apply below_alloc | apply pw_below_drewN | apply below_drew1) | exact HB.out))); rintro e w7 ⟨v252, rfl, ho0, hb⟩; refine ⟨_, rfl, ?_⟩; have n0_ := Aside0.mk (Kd.R_below (by (with_reducible repeat (first | apply Kd.R_alloc | apply Kd.R_drewN | apply Kd.R_drew)); exact HO250.out) hb); have n1_ := Aside0.mk (Kd.R_lower ho0 (below_size (by repeat (first | (with_reducible first | exact HB.out | apply below_alloc | apply pw_below_drewN | apply below_drew1) | exact HB.out)))); have n2_ := Aside0.mk (below_step (by repeat (first | (with_reducible first | exact HB.out | apply below_alloc | apply pw_below_drewN | apply below_drew1) | exact HB.out)) hb); clear HO250; clear HB; have HO250 := n0_; have HO253 := n1_; have HB := n2_; clear n0_ n1_ n2_; (try clear hb); (try clear hb2); (try clear hk); (try clear hi); (try clear ho0); obtain ⟨Ao8, co8, eo8⟩ := Kd.R_slice HO253.out; subst eo8))
      go_loopg [5, 23] k (fun kq v5 v23 w' => ∃ (x4_1 : List Int) (x5_1 : Int) (x23_1 : Int), v5 = .int .i64 x5_1 ∧ v23 = .int .i64 x23_1 ∧ Aside0 (impl_Assemble.l0 kq x4_1 x5_1 t251 (t251.length : Int) x23_1 = some (r1, r2)) ∧ Aside0 (kq ≤ k) ∧ Aside0 (Kd.R (Kd.int .i64) 3 w' w.heap.size (fun _ => True) v249 x4_1) ∧ Aside0 (Kd.R Kd.string 9 w' w.heap.size (fun _ => True) (.slice Ao8 t251.length co8) t251) ∧ Aside0 (Below w.heap.size w w'))
      case atStart => exact ⟨(y248), (0), (0), (by first | rfl | (simp; done) | (simp [*]; done)), (by first | rfl | (simp; done) | (simp [*]; done)), H', ⟨Nat.le_refl _⟩, ⟨by (with_reducible repeat (first | apply Kd.R_alloc | apply Kd.R_drewN | apply Kd.R_drew)); exact HO250.out⟩, ⟨by (with_reducible repeat (first | apply Kd.R_alloc | apply Kd.R_drewN | apply Kd.R_drew)); exact HO253.out⟩, ⟨by repeat (first | (with_reducible first | exact HB.out | apply below_alloc | apply pw_below_drewN | apply below_drew1) | exact HB.out)⟩⟩
      case round =>
        clear H'
        try clear c2
        try clear c2b0
        try clear c2b1
        try clear p2
        try clear c3
        try clear c3b0
        try clear c3b1
        obtain ⟨x4_1, x5_1, x23_1, rfl, rfl, HA, HK1, HO_4, HO_21, HB⟩ := hrel
        cases gk with
        | zero => exact absurd HA.out (by simp [impl_Assemble.l0])
        | succ k1 =>
          have H := HA.out
          clear HA
          simp only [impl_Assemble.l0] at H
          by_cases c9 : x23_1 < (t251.length : Int)
          · rw [if_pos c9] at H
            have c9b0 : decide (x23_1 < (t251.length : Int)) = true := decide_eq_true c9
            clear c9
            by_cases c10 : 0 ≤ x23_1
            · rw [if_pos c10] at H
              have c10b0 : decide (0 ≤ x23_1) = true := decide_eq_true c10
              clear c10
              by_cases c11 : x23_1 < (t251.length : Int)
              · rw [if_pos c11] at H
                have c11b0 : decide (x23_1 < (t251.length : Int)) = true := decide_eq_true c11
                clear c11
                by_cases c12 : (rdOf ByteArray.empty t251 x23_1).toList = ([] : List UInt8)
                · rw [if_pos c12] at H
                  have c12b0 : ((rdOf ByteArray.empty t251 x23_1).toList == ([] : List UInt8)) = true := beq_iff_eq.mpr c12
                  have c12b1 : ((rdOf ByteArray.empty t251 x23_1).toList != ([] : List UInt8)) = false := bne_eq_false_iff_eq.mpr c12
                  clear c12
                  have H' := Aside0.mk H
                  clear H
                  have p254 : 0 ≤ (x23_1 : Int) := of_decide_eq_true (by first | (with_reducible assumption) | assumption)
                  have q254 : x23_1 < (t251.length : Int) := of_decide_eq_true (by first | (with_reducible assumption) | assumption)
                  obtain ⟨ad254, e254, hx254_0⟩ := Kd.at_string (Kd.R_reads' HO_21.out).2.2 x23_1 p254 q254
                  cases e254
                  replace p254 := eq_true p254
                  replace q254 := eq_true q254
                  go_wp2
                  go_roundg k1
                  case measure => have := HK1.out; omega
                  case rel => exact ⟨(x4_1), (x5_1), (wrap64 (x23_1 + 1)), (by first | rfl | (simp; done) | (simp [*]; done)), (by first | rfl | (simp; done) | (simp [*]; done)), H', ⟨by have := HK1.out; omega⟩, ⟨by (with_reducible repeat (first | apply Kd.R_alloc | apply Kd.R_drewN | apply Kd.R_drew)); exact HO_4.out⟩, ⟨by (with_reducible repeat (first | apply Kd.R_alloc | apply Kd.R_drewN | apply Kd.R_drew)); exact HO_21.out⟩, ⟨by repeat (first | (with_reducible first | exact HB.out | apply below_alloc | apply pw_below_drewN | apply below_drew1) | exact HB.out)⟩⟩
                · rw [if_neg c12] at H
                  have c12b0 : ((rdOf ByteArray.empty t251 x23_1).toList == ([] : List UInt8)) = false := beq_eq_false_iff_ne.mpr c12
                  have c12b1 : ((rdOf ByteArray.empty t251 x23_1).toList != ([] : List UInt8)) = true := bne_iff_ne.mpr c12
                  replace H := Option.bind_eq_some_iff.mp H
                  obtain ⟨⟨t255, t256⟩, A130, H⟩ := H
                  replace H : (if t256 = true then ((impl_readNumber.f k1 t255 255).bind fun bt257 => (if bt257.2 = true then (impl_Assemble.l0 k1 x4_1 bt257.1 t251 (t251.length : Int) (wrap64 (x23_1 + 1))) else (some (([] : List Int), wrap64 (x23_1 + 1))))) else ((impl_lineBytes.f k1 (rdOf ByteArray.empty t251 x23_1)).bind fun bt259 => (if bt259.2 = true then (impl_Assemble.l1 k1 x4_1 x5_1 t251 (t251.length : Int) x23_1 bt259.1 (bt259.1.length : Int) 0) else (some (([] : List Int), wrap64 (x23_1 + 1)))))) = some (r1, r2) := H
                  have A13 := Aside0.mk A130
                  clear A130
                  by_cases c14 : t256 = true
                  · subst c14
                    have H1 : ((impl_readNumber.f k1 t255 255).bind fun bt257 => (if bt257.2 = true then (impl_Assemble.l0 k1 x4_1 bt257.1 t251 (t251.length : Int) (wrap64 (x23_1 + 1))) else (some (([] : List Int), wrap64 (x23_1 + 1))))) = some (r1, r2) := by rw [if_pos rfl] at H; exact H
                    clear H
                    have H := H1
                    clear H1
                    replace H := Option.bind_eq_some_iff.mp H
                    obtain ⟨⟨t257, t258⟩, A150, H⟩ := H
                    replace H : (if t258 = true then (impl_Assemble.l0 k1 x4_1 t257 t251 (t251.length : Int) (wrap64 (x23_1 + 1))) else (some (([] : List Int), wrap64 (x23_1 + 1)))) = some (r1, r2) := H
                    have A15 := Aside0.mk A150
                    clear A150
                    by_cases c16 : t258 = true
                    · subst c16
                      have H1 : (impl_Assemble.l0 k1 x4_1 t257 t251 (t251.length : Int) (wrap64 (x23_1 + 1))) = some (r1, r2) := by rw [if_pos rfl] at H; exact H
                      clear H
                      have H := H1
                      clear H1
                      have H' := Aside0.mk H
                      clear H
                      have p254 : 0 ≤ (x23_1 : Int) := of_decide_eq_true (by first | (with_reducible assumption) | assumption)
                      have q254 : x23_1 < (t251.length : Int) := of_decide_eq_true (by first | (with_reducible assumption) | assumption)
                      obtain ⟨ad254, e254, hx254_0⟩ := Kd.at_string (Kd.R_reads' HO_21.out).2.2 x23_1 p254 q254
                      cases e254
                      replace p254 := eq_true p254
                      replace q254 := eq_true q254
                      go_wp2_with (first | ((with_reducible refine gate_callee (f := 26) rfl ?_); refine goesL_ (some 32) rfl rfl Tryd.func26 (by kernel_rfl) rfl #[.string (rdOf ByteArray.empty t251 x23_1), .string (⟨#[97, 116, 32]⟩ : ByteArray)] rfl (by (try simp only [List.map_toArray, List.map_cons, List.map_nil]); first | done | rfl | (simp only [List.length_drop, List.length_take]; rfl)) ?_; (with_reducible refine (strings_CutPrefix.calls (rdOf ByteArray.empty t251 x23_1) (⟨#[97, 116, 32]⟩ : ByteArray) t255 true _ A13.out).mono ?_); rintro e w' ⟨rfl, ⟨nd, rfl⟩⟩; refine ⟨_, rfl, ?_⟩) | ((with_reducible refine gate_callee (f := 27) rfl ?_); refine goesL_ (some 38) rfl rfl Tryd.func27 (by kernel_rfl) rfl #[.string t255, .int .i64 255] rfl (by (try simp only [List.map_toArray, List.map_cons, List.map_nil]); first | done | rfl | (simp only [List.length_drop, List.length_take]; rfl)) ?_; (with_reducible refine (impl_readNumber.calls k1 t255 255 t257 true _ A15.out ?tab).mono ?_); (case tab => exact HT.out.on (by repeat (first | (with_reducible first | exact HB.out | apply below_alloc | apply pw_below_drewN | apply below_drew1) | exact HB.out))); rintro e w17 ⟨rfl, hb⟩; refine ⟨_, rfl, ?_⟩; have n0_ := Aside0.mk (Kd.R_below (by (with_reducible repeat (first | apply Kd.R_alloc | apply Kd.R_drewN | apply Kd.R_drew)); exact HO_4.out) hb); have n1_ := Aside0.mk (Kd.R_below (by (with_reducible repeat (first | apply Kd.R_alloc | apply Kd.R_drewN | apply Kd.R_drew)); exact HO_21.out) hb); have n2_ := Aside0.mk (below_step (by repeat (first | (with_reducible first | exact HB.out | apply below_alloc | apply pw_below_drewN | apply below_drew1) | exact HB.out)) hb); clear HO_4; clear HO_21; clear HB; have HO_4 := n0_; have HO_21 := n1_; have HB := n2_; clear n0_ n1_ n2_; (try clear hb); (try clear hb2); (try clear hk); (try clear hi)))
                      go_roundg k1
                      case measure => have := HK1.out; omega
                      case rel => exact ⟨(x4_1), (t257), (wrap64 (x23_1 + 1)), (by first | rfl | (simp; done) | (simp [*]; done)), (by first | rfl | (simp; done) | (simp [*]; done)), H', ⟨by have := HK1.out; omega⟩, ⟨by (with_reducible repeat (first | apply Kd.R_alloc | apply Kd.R_drewN | apply Kd.R_drew)); exact HO_4.out⟩, ⟨by (with_reducible repeat (first | apply Kd.R_alloc | apply Kd.R_drewN | apply Kd.R_drew)); exact HO_21.out⟩, ⟨by repeat (first | (with_reducible first | exact HB.out | apply below_alloc | apply pw_below_drewN | apply below_drew1) | exact HB.out)⟩⟩
                    · replace c16 := Bool.eq_false_iff.mpr c16
                      subst c16
                      have H1 : (some (([] : List Int), wrap64 (x23_1 + 1))) = some (r1, r2) := by rw [if_neg (show ¬ (false = true) by decide)] at H; exact H
                      clear H
                      have H := H1
                      clear H1
                      simp only [Option.some.injEq, Prod.mk.injEq] at H
                      obtain ⟨rfl, rfl⟩ := H
                      have p254 : 0 ≤ (x23_1 : Int) := of_decide_eq_true (by first | (with_reducible assumption) | assumption)
                      have q254 : x23_1 < (t251.length : Int) := of_decide_eq_true (by first | (with_reducible assumption) | assumption)
                      obtain ⟨ad254, e254, hx254_0⟩ := Kd.at_string (Kd.R_reads' HO_21.out).2.2 x23_1 p254 q254
                      cases e254
                      replace p254 := eq_true p254
                      replace q254 := eq_true q254
                      go_wp2_with (first | ((with_reducible refine gate_callee (f := 26) rfl ?_); refine goesL_ (some 32) rfl rfl Tryd.func26 (by kernel_rfl) rfl #[.string (rdOf ByteArray.empty t251 x23_1), .string (⟨#[97, 116, 32]⟩ : ByteArray)] rfl (by (try simp only [List.map_toArray, List.map_cons, List.map_nil]); first | done | rfl | (simp only [List.length_drop, List.length_take]; rfl)) ?_; (with_reducible refine (strings_CutPrefix.calls (rdOf ByteArray.empty t251 x23_1) (⟨#[97, 116, 32]⟩ : ByteArray) t255 true _ A13.out).mono ?_); rintro e w' ⟨rfl, ⟨nd, rfl⟩⟩; refine ⟨_, rfl, ?_⟩) | ((with_reducible refine gate_callee (f := 27) rfl ?_); refine goesL_ (some 38) rfl rfl Tryd.func27 (by kernel_rfl) rfl #[.string t255, .int .i64 255] rfl (by (try simp only [List.map_toArray, List.map_cons, List.map_nil]); first | done | rfl | (simp only [List.length_drop, List.length_take]; rfl)) ?_; (with_reducible refine (impl_readNumber.calls k1 t255 255 t257 false _ A15.out ?tab).mono ?_); (case tab => exact HT.out.on (by repeat (first | (with_reducible first | exact HB.out | apply below_alloc | apply pw_below_drewN | apply below_drew1) | exact HB.out))); rintro e w18 ⟨rfl, hb⟩; refine ⟨_, rfl, ?_⟩; have n0_ := Aside0.mk (Kd.R_below (by (with_reducible repeat (first | apply Kd.R_alloc | apply Kd.R_drewN | apply Kd.R_drew)); exact HO_4.out) hb); have n1_ := Aside0.mk (Kd.R_below (by (with_reducible repeat (first | apply Kd.R_alloc | apply Kd.R_drewN | apply Kd.R_drew)); exact HO_21.out) hb); have n2_ := Aside0.mk (below_step (by repeat (first | (with_reducible first | exact HB.out | apply below_alloc | apply pw_below_drewN | apply below_drew1) | exact HB.out)) hb); clear HO_4; clear HO_21; clear HB; have HO_4 := n0_; have HO_21 := n1_; have HB := n2_; clear n0_ n1_ n2_; (try clear hb); (try clear hb2); (try clear hk); (try clear hi)))
                      go_ret2
                      exact ⟨_, by first | rfl | (simp [errW_none, errW_some] <;> rfl) | (simp [*, errW_none, errW_some] <;> rfl), by first | exact Kd.R_nil _ _ _ _ _ | exact Kd.N_nil _ _ _ _ _ | exact Kd.V_nil _ _ _ _ _ | exact Kd.Q_nil _ _ _ _ _ | exact Kd.S_nil _ _ _ _ _, by repeat (first | (with_reducible first | exact HB.out | apply below_alloc | apply pw_below_drewN | apply below_drew1) | exact HB.out)⟩
                  · replace c14 := Bool.eq_false_iff.mpr c14
                    subst c14
                    have H1 : ((impl_lineBytes.f k1 (rdOf ByteArray.empty t251 x23_1)).bind fun bt259 => (if bt259.2 = true then (impl_Assemble.l1 k1 x4_1 x5_1 t251 (t251.length : Int) x23_1 bt259.1 (bt259.1.length : Int) 0) else (some (([] : List Int), wrap64 (x23_1 + 1))))) = some (r1, r2) := by rw [if_neg (show ¬ (false = true) by decide)] at H; exact H
                    clear H
                    have H := H1
                    clear H1
                    replace H := Option.bind_eq_some_iff.mp H
                    obtain ⟨⟨t259, t260⟩, A190, H⟩ := H
                    replace H : (if t260 = true then (impl_Assemble.l1 k1 x4_1 x5_1 t251 (t251.length : Int) x23_1 t259 (t259.length : Int) 0) else (some (([] : List Int), wrap64 (x23_1 + 1)))) = some (r1, r2) := H
                    have A19 := Aside0.mk A190
                    clear A190
                    by_cases c20 : t260 = true
                    · subst c20
                      have H1 : (impl_Assemble.l1 k1 x4_1 x5_1 t251 (t251.length : Int) x23_1 t259 (t259.length : Int) 0) = some (r1, r2) := by rw [if_pos rfl] at H; exact H
                      clear H
                      have H := H1
                      clear H1
                      have H' := Aside0.mk H
                      clear H
                      have p254 : 0 ≤ (x23_1 : Int) := of_decide_eq_true (by first | (with_reducible assumption) | assumption)
                      have q254 : x23_1 < (t251.length : Int) := of_decide_eq_true (by first | (with_reducible assumption) | assumption)
                      obtain ⟨ad254, e254, hx254_0⟩ := Kd.at_string (Kd.R_reads' HO_21.out).2.2 x23_1 p254 q254
                      cases e254
                      replace p254 := eq_true p254
                      replace q254 := eq_true q254
                      go_wp2_with (first | ((with_reducible refine gate_callee (f := 26) rfl ?_); refine goesL_ (some 32) rfl rfl Tryd.func26 (by kernel_rfl) rfl #[.string (rdOf ByteArray.empty t251 x23_1), .string (⟨#[97, 116, 32]⟩ : ByteArray)] rfl (by (try simp only [List.map_toArray, List.map_cons, List.map_nil]); first | done | rfl | (simp only [List.length_drop, List.length_take]; rfl)) ?_; (with_reducible refine (strings_CutPrefix.calls (rdOf ByteArray.empty t251 x23_1) (⟨#[97, 116, 32]⟩ : ByteArray) t255 false _ A13.out).mono ?_); rintro e w' ⟨rfl, ⟨nd, rfl⟩⟩; refine ⟨_, rfl, ?_⟩) | ((with_reducible refine gate_callee (f := 28) rfl ?_); refine goesL_ (some 48) rfl rfl Tryd.func28 (by kernel_rfl) rfl #[.string (rdOf ByteArray.empty t251 x23_1)] rfl (by (try simp only [List.map_toArray, List.map_cons, List.map_nil]); first | done | rfl | (simp only [List.length_drop, List.length_take]; rfl)) ?_; (with_reducible refine (impl_lineBytes.calls k1 (rdOf ByteArray.empty t251 x23_1) t259 true _ A19.out ?tab).mono ?_); (case tab => exact HT.out.on (by repeat (first | (with_reducible first | exact HB.out | apply below_alloc | apply pw_below_drewN | apply below_drew1) | exact HB.out))); rintro e w21 ⟨v261, rfl, ho0, hb⟩; refine ⟨_, rfl, ?_⟩; have n0_ := Aside0.mk (Kd.R_elder' (by (with_reducible repeat (first | apply Kd.R_alloc | apply Kd.R_drewN | apply Kd.R_drew)); exact HO_4.out) (Kd.R_base ho0) hb); have n1_ := Aside0.mk (Kd.R_below (by (with_reducible repeat (first | apply Kd.R_alloc | apply Kd.R_drewN | apply Kd.R_drew)); exact HO_21.out) hb); have n2_ := Aside0.mk (Kd.R_lower (Kd.R_new' ho0 (Kd.R_lt (by (with_reducible repeat (first | apply Kd.R_alloc | apply Kd.R_drewN | apply Kd.R_drew)); exact HO_4.out))) (below_size (by repeat (first | (with_reducible first | exact HB.out | apply below_alloc | apply pw_below_drewN | apply below_drew1) | exact HB.out)))); have n3_ := Aside0.mk (below_step (by repeat (first | (with_reducible first | exact HB.out | apply below_alloc | apply pw_below_drewN | apply below_drew1) | exact HB.out)) hb); clear HO_4; clear HO_21; clear HB; have HO_4 := n0_; have HO_21 := n1_; have HO262 := n2_; have HB := n3_; clear n0_ n1_ n2_ n3_; (try clear hb); (try clear hb2); (try clear hk); (try clear hi); (try clear ho0); obtain ⟨Ao22, co22, eo22⟩ := Kd.R_slice HO262.out; subst eo22))
                      go_loopg [5, 57] k1 (fun kq v5 v57 w' => ∃ (x4_2 : List Int) (x5_2 : Int) (x57_2 : Int), v5 = .int .i64 x5_2 ∧ v57 = .int .i64 x57_2 ∧ Aside0 (impl_Assemble.l1 kq x4_2 x5_2 t251 (t251.length : Int) x23_1 t259 (t259.length : Int) x57_2 = some (r1, r2)) ∧ Aside0 (kq ≤ k1) ∧ Aside0 (Kd.R (Kd.int .i64) 3 w' w.heap.size (fun k_ => some k_ ≠ ((.slice Ao22 t259.length co22) : Value).ownBlock) v249 x4_2) ∧ Aside0 (Kd.R Kd.string 9 w' w.heap.size (fun _ => True) (.slice (some ad254) t251.length co8) t251) ∧ Aside0 (Kd.R (Kd.int .i64) 3 w' w.heap.size (fun k_ => some k_ ≠ (v249 : Value).ownBlock) (.slice Ao22 t259.length co22) t259) ∧ Aside0 (Below w.heap.size w w'))
                      case atStart => exact ⟨(x4_1), (x5_1), (0), (by first | rfl | (simp; done) | (simp [*]; done)), (by first | rfl | (simp; done) | (simp [*]; done)), H', ⟨Nat.le_refl _⟩, ⟨by (with_reducible repeat (first | apply Kd.R_alloc | apply Kd.R_drewN | apply Kd.R_drew)); exact Kd.R_mono HO_4.out (fun _ hk => hk.2)⟩, ⟨by (with_reducible repeat (first | apply Kd.R_alloc | apply Kd.R_drewN | apply Kd.R_drew)); exact HO_21.out⟩, ⟨by (with_reducible repeat (first | apply Kd.R_alloc | apply Kd.R_drewN | apply Kd.R_drew)); exact Kd.R_mono HO262.out (fun _ hk => hk.2)⟩, ⟨by repeat (first | (with_reducible first | exact HB.out | apply below_alloc | apply pw_below_drewN | apply below_drew1) | exact HB.out)⟩⟩
                      case round =>
                        clear H'
                        try clear c1
                        try clear c2
                        try clear c2b0
                        try clear c2b1
                        try clear p2
                        try clear q2
                        try clear hx2
                        try clear c3
                        try clear c3b0
                        try clear c3b1
                        try clear p6
                        try clear c9
                        try clear c9b0
                        try clear c10
                        try clear c10b0
                        try clear c11
                        try clear c11b0
                        try clear c12
                        try clear c12b0
                        try clear c12b1
                        try clear c14
                        try clear c16
                        try clear c20
                        try clear hx254_0
                        try clear p2
                        try clear p254
                        try clear q254
                        obtain ⟨x4_2, x5_2, x57_2, rfl, rfl, HA, HK2, HO_4, HO_21, HO_55, HB⟩ := hrel
                        cases gk with
                        | zero => exact absurd HA.out (by simp [impl_Assemble.l1])
                        | succ k2 =>
                          have H := HA.out
                          clear HA
                          simp only [impl_Assemble.l1] at H
                          by_cases c23 : x57_2 < (t259.length : Int)
                          · rw [if_pos c23] at H
                            have c23b0 : decide (x57_2 < (t259.length : Int)) = true := decide_eq_true c23
                            clear c23
                            by_cases c24 : 0 ≤ x57_2
                            · rw [if_pos c24] at H
                              have c24b0 : decide (0 ≤ x57_2) = true := decide_eq_true c24
                              clear c24
                              by_cases c25 : x57_2 < (t259.length : Int)
                              · rw [if_pos c25] at H
                                have c25b0 : decide (x57_2 < (t259.length : Int)) = true := decide_eq_true c25
                                clear c25
                                by_cases c26 : 0 ≤ x5_2
                                · rw [if_pos c26] at H
                                  have c26b0 : decide (0 ≤ x5_2) = true := decide_eq_true c26
                                  clear c26
                                  by_cases c27 : x5_2 < (x4_2.length : Int)
                                  · rw [if_pos c27] at H
                                    have c27b0 : decide (x5_2 < (x4_2.length : Int)) = true := decide_eq_true c27
                                    clear c27
                                    obtain ⟨y264, hy264⟩ : ∃ y_ : List Int, y_ = (x4_2.set (x5_2 : Int).toNat (rd t259 x57_2)) := ⟨_, rfl⟩
                                    replace H : (impl_Assemble.l1 k2 y264 (Int.tmod (wrap64 (x5_2 + 1)) 256) t251 (t251.length : Int) x23_1 t259 (t259.length : Int) (wrap64 (x57_2 + 1))) = some (r1, r2) := by first | (rw [hy264]; with_reducible exact H) | (have H2_ := (Option.bind_some _ _).symm.trans H; rw [hy264]; with_reducible exact H2_) | (have H2_ := (Option.bind_some _ _).symm.trans H; with_reducible exact H2_) | with_reducible exact H | (rw [hy264]; exact H) | exact H
                                    have Ny264 := Aside0.mk hy264
                                    clear hy264
                                    have H' := Aside0.mk H
                                    clear H
                                    have p263 : 0 ≤ (x57_2 : Int) := of_decide_eq_true (by first | (with_reducible assumption) | assumption)
                                    have q263 : x57_2 < (t259.length : Int) := of_decide_eq_true (by first | (with_reducible assumption) | assumption)
                                    obtain ⟨ad263, e263, hx263_0⟩ := Kd.at_int (Kd.R_reads' HO_55.out).2.2 x57_2 p263 q263
                                    cases e263
                                    replace p263 := eq_true p263
                                    replace q263 := eq_true q263
                                    have p28 : 0 ≤ (x5_2 : Int) := of_decide_eq_true (by first | (with_reducible assumption) | assumption)
                                    have q28 : (x5_2 : Int) < ((x4_2.length : Int) : Int) := of_decide_eq_true (by first | (with_reducible assumption) | assumption)
                                    obtain ⟨go28, co28, eo28, gb28, gl28, cl28, HG28⟩ := Kd.R_form HO_4.out (by omega)
                                    (first | cases eo28 | (injection eo28 with ea_ en_ ec_; (first | subst ea_ | (injection ea_ with ea_; subst ea_)); subst ec_; clear en_))
                                    have GB28 := Aside0.mk gb28
                                    have GG28 := Aside0.mk HG28
                                    clear gb28 gl28 HG28
                                    obtain ⟨hx28_0, hf28_0⟩ := Kd.R_celln 0 HO_4.out (x5_2 : Int) p28 q28
                                    replace p28 := eq_true p28
                                    replace q28 := eq_true q28
                                    have HP29 := Kd.R_putg HO_4.out (x5_2 : Int) (rd t259 x57_2)
                                    go_wp2_with (first | ((with_reducible refine gate_store (t := 3) (p := 64) rfl ?_); refine store_event (t := 3) (p := 64) (v := ?vo_w30) (w1 := (wr.setCell ⟨go28, (x5_2 : Int).toNat, none⟩ (.int .i64 (rd t259 x57_2)))) ?hg ?ho ?hn ?hr ?_; (case ho => rfl); (case hg => rfl); (case hn => rfl); (case hr => first | (go_simp; done) | (go_simp; rfl)); intro w30 hw; have hg : wr.grownBy w30 (some go28) := (by rw [hw]; exact HP29.2); have hp_ : Kd.R (Kd.int .i64) 3 w30 w.heap.size (fun k_ => some k_ ≠ (.slice (some ad263) t259.length co22 : Value).ownBlock) (.slice (some ⟨go28, 0, none⟩) x4_2.length co28) y264 := (by rw [hw, Ny264.out]; exact HP29.1); clear HP29; have n0_ := Aside0.mk (hp_); have n1_ := Aside0.mk (Kd.R_over' (v := (.slice (some ⟨go28, 0, none⟩) x4_2.length co28)) (by (with_reducible repeat (first | apply Kd.R_alloc | apply Kd.R_drewN | apply Kd.R_drew)); exact HO_21.out) (Kd.R_typed HO_4.out) (by decide) hg); have n2_ := Aside0.mk (Kd.R_after (v := (.slice (some ⟨go28, 0, none⟩) x4_2.length co28)) (v1 := (.slice (some ⟨go28, 0, none⟩) x4_2.length co28)) (ok := (fun _ => True)) (by (with_reducible repeat (first | apply Kd.R_alloc | apply Kd.R_drewN | apply Kd.R_drew)); exact Kd.R_mono HO_55.out (fun _ hk => ⟨trivial, hk⟩)) hg (.inl rfl)); have n3_ := Aside0.mk ((by rw [hw]; exact below_set (HB.out) GB28.out : Below w.heap.size w w30)); clear HO_4; clear HO_21; clear HO_55; clear HB; have HO_4 := n0_; have HO_21 := n1_; have HO_55 := n2_; have HB := n3_; clear n0_ n1_ n2_ n3_; clear hg hw hp_))
                                    go_roundg k2
                                    case measure => have := HK1.out; have := HK2.out; omega
                                    case rel => exact ⟨(y264), (Int.tmod (wrap64 (x5_2 + 1)) 256), (wrap64 (x57_2 + 1)), (by first | rfl | (simp; done) | (simp [*]; done)), (by first | rfl | (simp; done) | (simp [*]; done)), H', ⟨by have := HK1.out; have := HK2.out; omega⟩, ⟨by (with_reducible repeat (first | apply Kd.R_alloc | apply Kd.R_drewN | apply Kd.R_drew)); exact HO_4.out⟩, ⟨by (with_reducible repeat (first | apply Kd.R_alloc | apply Kd.R_drewN | apply Kd.R_drew)); exact HO_21.out⟩, ⟨by (with_reducible repeat (first | apply Kd.R_alloc | apply Kd.R_drewN | apply Kd.R_drew)); exact Kd.R_mono HO_55.out (fun _ hk => hk.2)⟩, ⟨by repeat (first | (with_reducible first | exact HB.out | apply below_alloc | apply pw_below_drewN | apply below_drew1) | exact HB.out)⟩⟩
                                  · rw [if_neg c27] at H
                                    exact absurd H (by simp)
                                · rw [if_neg c26] at H
                                  exact absurd H (by simp)
                              · rw [if_neg c25] at H
                                exact absurd H (by simp)
                            · rw [if_neg c24] at H
                              exact absurd H (by simp)
                          · rw [if_neg c23] at H
                            have c23b0 : decide (x57_2 < (t259.length : Int)) = false := decide_eq_false c23
                            clear c23
                            have H' := Aside0.mk H
                            clear H
                            go_wp2
                            go_roundg k2
                            case measure => have := HK1.out; have := HK2.out; omega
                            case rel => exact ⟨(x4_2), (x5_2), (wrap64 (x23_1 + 1)), (by first | rfl | (simp; done) | (simp [*]; done)), (by first | rfl | (simp; done) | (simp [*]; done)), H', ⟨by have := HK1.out; have := HK2.out; omega⟩, ⟨by (with_reducible repeat (first | apply Kd.R_alloc | apply Kd.R_drewN | apply Kd.R_drew)); exact Kd.R_mono HO_4.out (fun _ hk => trivial)⟩, ⟨by (with_reducible repeat (first | apply Kd.R_alloc | apply Kd.R_drewN | apply Kd.R_drew)); exact HO_21.out⟩, ⟨by repeat (first | (with_reducible first | exact HB.out | apply below_alloc | apply pw_below_drewN | apply below_drew1) | exact HB.out)⟩⟩
                    · replace c20 := Bool.eq_false_iff.mpr c20
                      subst c20
                      have H1 : (some (([] : List Int), wrap64 (x23_1 + 1))) = some (r1, r2) := by rw [if_neg (show ¬ (false = true) by decide)] at H; exact H
                      clear H
                      have H := H1
                      clear H1
                      simp only [Option.some.injEq, Prod.mk.injEq] at H
                      obtain ⟨rfl, rfl⟩ := H
                      have p254 : 0 ≤ (x23_1 : Int) := of_decide_eq_true (by first | (with_reducible assumption) | assumption)
                      have q254 : x23_1 < (t251.length : Int) := of_decide_eq_true (by first | (with_reducible assumption) | assumption)
                      obtain ⟨ad254, e254, hx254_0⟩ := Kd.at_string (Kd.R_reads' HO_21.out).2.2 x23_1 p254 q254
                      cases e254
                      replace p254 := eq_true p254
                      replace q254 := eq_true q254
                      go_wp2_with (first | ((with_reducible refine gate_callee (f := 26) rfl ?_); refine goesL_ (some 32) rfl rfl Tryd.func26 (by kernel_rfl) rfl #[.string (rdOf ByteArray.empty t251 x23_1), .string (⟨#[97, 116, 32]⟩ : ByteArray)] rfl (by (try simp only [List.map_toArray, List.map_cons, List.map_nil]); first | done | rfl | (simp only [List.length_drop, List.length_take]; rfl)) ?_; (with_reducible refine (strings_CutPrefix.calls (rdOf ByteArray.empty t251 x23_1) (⟨#[97, 116, 32]⟩ : ByteArray) t255 false _ A13.out).mono ?_); rintro e w' ⟨rfl, ⟨nd, rfl⟩⟩; refine ⟨_, rfl, ?_⟩) | ((with_reducible refine gate_callee (f := 28) rfl ?_); refine goesL_ (some 48) rfl rfl Tryd.func28 (by kernel_rfl) rfl #[.string (rdOf ByteArray.empty t251 x23_1)] rfl (by (try simp only [List.map_toArray, List.map_cons, List.map_nil]); first | done | rfl | (simp only [List.length_drop, List.length_take]; rfl)) ?_; (with_reducible refine (impl_lineBytes.calls k1 (rdOf ByteArray.empty t251 x23_1) t259 false _ A19.out ?tab).mono ?_); (case tab => exact HT.out.on (by repeat (first | (with_reducible first | exact HB.out | apply below_alloc | apply pw_below_drewN | apply below_drew1) | exact HB.out))); rintro e w31 ⟨v261, rfl, ho0, hb⟩; refine ⟨_, rfl, ?_⟩; have n0_ := Aside0.mk (Kd.R_elder' (by (with_reducible repeat (first | apply Kd.R_alloc | apply Kd.R_drewN | apply Kd.R_drew)); exact HO_4.out) (Kd.R_base ho0) hb); have n1_ := Aside0.mk (Kd.R_below (by (with_reducible repeat (first | apply Kd.R_alloc | apply Kd.R_drewN | apply Kd.R_drew)); exact HO_21.out) hb); have n2_ := Aside0.mk (Kd.R_lower (Kd.R_new' ho0 (Kd.R_lt (by (with_reducible repeat (first | apply Kd.R_alloc | apply Kd.R_drewN | apply Kd.R_drew)); exact HO_4.out))) (below_size (by repeat (first | (with_reducible first | exact HB.out | apply below_alloc | apply pw_below_drewN | apply below_drew1) | exact HB.out)))); have n3_ := Aside0.mk (below_step (by repeat (first | (with_reducible first | exact HB.out | apply below_alloc | apply pw_below_drewN | apply below_drew1) | exact HB.out)) hb); clear HO_4; clear HO_21; clear HB; have HO_4 := n0_; have HO_21 := n1_; have HO262 := n2_; have HB := n3_; clear n0_ n1_ n2_ n3_; (try clear hb); (try clear hb2); (try clear hk); (try clear hi); (try clear ho0)))
                      go_ret2
                      exact ⟨_, by first | rfl | (simp [errW_none, errW_some] <;> rfl) | (simp [*, errW_none, errW_some] <;> rfl), by first | exact Kd.R_nil _ _ _ _ _ | exact Kd.N_nil _ _ _ _ _ | exact Kd.V_nil _ _ _ _ _ | exact Kd.Q_nil _ _ _ _ _ | exact Kd.S_nil _ _ _ _ _, by repeat (first | (with_reducible first | exact HB.out | apply below_alloc | apply pw_below_drewN | apply below_drew1) | exact HB.out)⟩
              · rw [if_neg c11] at H
                exact absurd H (by simp)
            · rw [if_neg c10] at H
              exact absurd H (by simp)
          · rw [if_neg c9] at H
            have c9b0 : decide (x23_1 < (t251.length : Int)) = false := decide_eq_false c9
            clear c9
            simp only [Option.some.injEq, Prod.mk.injEq] at H
            obtain ⟨rfl, rfl⟩ := H
            go_wp2
            go_ret2
            exact ⟨_, by first | rfl | (simp [errW_none, errW_some] <;> rfl) | (simp [*, errW_none, errW_some] <;> rfl), by (with_reducible repeat (first | apply Kd.R_alloc | apply Kd.R_drewN | apply Kd.R_drew)); exact HO_4.out, by repeat (first | (with_reducible first | exact HB.out | apply below_alloc | apply pw_below_drewN | apply below_drew1) | exact HB.out)⟩
    · rw [if_neg c3] at H
      exact absurd H (by simp)

/-! ### laws_big: function 13 -/
def laws_big.f (l0 : List Int) : Option (Bool) := some (decide ((l0.length : Int) > 1048576))
set_option maxHeartbeats 8000000 in
set_option maxRecDepth 100000 in
theorem laws_big.calls (A0 : Option Addr) (c0 : Nat) (l0 : List Int) (r : Bool) (w : World) (hr0 : Kd.C (Kd.int .u8) w A0 l0.length l0) (hc0 : l0.length ≤ c0) (h : laws_big.f l0 = some r) :
    Calls Tryd.prog 13 #[.slice A0 l0.length c0] w fun e w' => e = .returned (.bool r) ∧ Drawn0 w w' := by
  have HR0 := Aside0.mk hr0
  have HC0 := Aside0.mk hc0
  clear hr0 hc0
  have H : (some (decide ((l0.length : Int) > 1048576))) = some r := h
  clear h
  obtain rfl := Option.some.inj H
  go_enter Tryd.func13, Tryd.ntmps13
  go_wp2
  go_ret
  exact ⟨by first | rfl | (simp; done) | (simp [*]; done), by repeat (first | exact Drawn0.refl _ | apply Drawn0.step)⟩

/-- A state of type 75 at block g of W; what its slices lead to came in by w0. -/
def IsS75 (w0 W : World) (g : Nat) (f0 : List Int) (f1 : Int) (f2 : Int) : Prop := ∃ A0 c0, W.heap[g]? = some (.cells #[.slice A0 f0.length c0, .int .i64 f1, .int .i64 f2] 75 (0, 0)) ∧ w0.heap.size ≤ g ∧ Kd.C (Kd.int .u8) w0 A0 f0.length f0
theorem IsS75.grown {w0 W : World} {g : Nat} {f0 : List Int} {f1 : Int} {f2 : Int} {W1 : World} {row : Option Nat} (h : IsS75 w0 W g f0 f1 f2) (hw : W.grownBy W1 row) (hne : some g ≠ row) : IsS75 w0 W1 g f0 f1 f2 := by
  obtain ⟨A0, c0, hb, hg, hr0⟩ := h
  exact ⟨A0, c0, blk_grown hb hw hne, hg, hr0⟩
theorem IsS75.own_neN {w0 W : World} {g : Nat} {f0 : List Int} {f1 : Int} {f2 : Int} {α : Type} {d : Kd α} {e : Nat} {base : Nat} {ok : Nat → Prop} {v : Value} {xs : List α} (h : IsS75 w0 W g f0 f1 f2) (ho : Kd.N d e W base ok v xs) (ht : e ≠ 75) : some g ≠ v.ownBlock := by
  obtain ⟨A0, c0, hb, hg, hr0⟩ := h
  exact Kd.N_ne ho hb ht
theorem IsS75.fresh {w0 W : World} {g : Nat} {f0 : List Int} {f1 : Int} {f2 : Int} (h : IsS75 w0 W g f0 f1 f2) : ∀ k, W.heap.size ≤ k → k ≠ g := by
  obtain ⟨A0, c0, hb, hg, hr0⟩ := h
  exact Kd.freshB hb
theorem IsS75.kept {w0 W : World} {g : Nat} {f0 : List Int} {f1 : Int} {f2 : Int} {W1 : World} {S : Nat → Prop} (h : IsS75 w0 W g f0 f1 f2) (hk : Kept W W1 S) (hne : ¬ S g) : IsS75 w0 W1 g f0 f1 f2 := by
  obtain ⟨A0, c0, hb, hg, hr0⟩ := h
  exact ⟨A0, c0, blk_kept hb hk hne, hg, hr0⟩
theorem IsS75.below {w0 W : World} {g : Nat} {f0 : List Int} {f1 : Int} {f2 : Int} {W1 : World} (h : IsS75 w0 W g f0 f1 f2) (hw : Below W.heap.size W W1) : IsS75 w0 W1 g f0 f1 f2 := h.grown (grown_of_below hw none) (by simp)
theorem IsS75.alloc {w0 W : World} {g : Nat} {f0 : List Int} {f1 : Int} {f2 : Int} (h : IsS75 w0 W g f0 f1 f2) (o : Obj) : IsS75 w0 (W.alloc o) g f0 f1 f2 := h.below (below_alloc (Below.refl _ _) o)
theorem IsS75.drewN {w0 W : World} {g : Nat} {f0 : List Int} {f1 : Int} {f2 : Int} (h : IsS75 w0 W g f0 f1 f2) (m : Nat) : IsS75 w0 (W.drewN m) g f0 f1 f2 := h
theorem IsS75.drew {w0 W : World} {g : Nat} {f0 : List Int} {f1 : Int} {f2 : Int} (h : IsS75 w0 W g f0 f1 f2) : IsS75 w0 W.drew g f0 f1 f2 := h
theorem IsS75.at_ {w0 W : World} {g : Nat} {f0 : List Int} {f1 : Int} {f2 : Int} {w' : World} {m : Nat} (hq : W.drewN m = w') (h : IsS75 w0 W g f0 f1 f2) : IsS75 w0 w' g f0 f1 f2 := by subst hq; exact IsS75.drewN h m
theorem IsS75.apart {w0 W : World} {g : Nat} {f0 : List Int} {f1 : Int} {f2 : Int} {α : Type} {d : Kd α} {e : Nat} {base : Nat} {ok : Nat → Prop} {v : Value} {xs : List α} (h : IsS75 w0 W g f0 f1 f2) (ho : d.R e W base ok v xs) (ht : ∀ q, q ∈ e :: d.E → q ≠ 75) : d.R e W base (fun k => ok k ∧ k ≠ g) v xs := by
  obtain ⟨A0, c0, hb, hg, hr0⟩ := h
  exact Kd.R_types ho hb ht
theorem IsS75.own_ne {w0 W : World} {g : Nat} {f0 : List Int} {f1 : Int} {f2 : Int} {α : Type} {d : Kd α} {e : Nat} {base : Nat} {ok : Nat → Prop} {v : Value} {xs : List α} (h : IsS75 w0 W g f0 f1 f2) (ho : d.R e W base ok v xs) (ht : e ≠ 75) : some g ≠ v.ownBlock := by
  obtain ⟨A0, c0, hb, hg, hr0⟩ := h
  exact Kd.R_ne ho hb ht
theorem IsS75.apartQ {w0 W : World} {g : Nat} {f0 : List Int} {f1 : Int} {f2 : Int} {α : Type} {d : Kd α} {e : Nat} {base : Nat} {ok : Nat → Prop} {v : Value} {xs : List α} (h : IsS75 w0 W g f0 f1 f2) (ho : d.Q e W base ok v xs) (ht : ∀ q, q ∈ e :: d.E → q ≠ 75) : d.Q e W base (fun k => ok k ∧ k ≠ g) v xs := by
  obtain ⟨A0, c0, hb, hg, hr0⟩ := h
  exact Kd.Q_types ho hb ht
theorem IsS75.own_neQ {w0 W : World} {g : Nat} {f0 : List Int} {f1 : Int} {f2 : Int} {α : Type} {d : Kd α} {e : Nat} {base : Nat} {ok : Nat → Prop} {v : Value} {xs : List α} (h : IsS75 w0 W g f0 f1 f2) (ho : d.Q e W base ok v xs) (ht : e ≠ 75) : some g ≠ v.ownBlock := by
  obtain ⟨A0, c0, hb, hg, hr0⟩ := h
  exact Kd.Q_ne ho hb ht
theorem IsS75.apartS {w0 W : World} {g : Nat} {f0 : List Int} {f1 : Int} {f2 : Int} {α : Type} {d : Kd α} {e : Nat} {base : Nat} {ok : Nat → Prop} {v : Value} {xs : List α} (h : IsS75 w0 W g f0 f1 f2) (ho : d.S e W base ok v xs) (ht : ∀ q, q ∈ e :: d.E → q ≠ 75) : d.S e W base (fun k => ok k ∧ k ≠ g) v xs := by
  obtain ⟨A0, c0, hb, hg, hr0⟩ := h
  exact Kd.S_types ho hb ht
theorem IsS75.own_neS {w0 W : World} {g : Nat} {f0 : List Int} {f1 : Int} {f2 : Int} {α : Type} {d : Kd α} {e : Nat} {base : Nat} {ok : Nat → Prop} {v : Value} {xs : List α} (h : IsS75 w0 W g f0 f1 f2) (ho : d.S e W base ok v xs) (ht : e ≠ 75) : some g ≠ v.ownBlock := by
  obtain ⟨A0, c0, hb, hg, hr0⟩ := h
  exact Kd.S_ne ho hb ht
theorem IsS75.lt {w0 W : World} {g : Nat} {f0 : List Int} {f1 : Int} {f2 : Int} (h : IsS75 w0 W g f0 f1 f2) : g < W.heap.size := by
  obtain ⟨A0, c0, hb, hg, hr0⟩ := h
  exact blk_lt hb
theorem IsS75.ge {w0 W : World} {g : Nat} {f0 : List Int} {f1 : Int} {f2 : Int} (h : IsS75 w0 W g f0 f1 f2) : w0.heap.size ≤ g := by
  obtain ⟨A0, c0, hb, hg, hr0⟩ := h
  exact hg
theorem IsS75.ne_blk {w0 W : World} {g : Nat} {f0 : List Int} {f1 : Int} {f2 : Int} {a : Nat} {cs : Array Value} {t : TypeId} {fr : Nat × Nat} (h : IsS75 w0 W g f0 f1 f2) (hb2 : W.heap[a]? = some (.cells cs t fr)) (ht : t ≠ 75) : g ≠ a := by
  obtain ⟨A0, c0, hb, hg, hr0⟩ := h
  rintro rfl
  rw [hb] at hb2
  injection hb2 with hb2
  injection hb2 with _ ht2
  exact ht ht2.symm
theorem IsS75.far {w0 W : World} {g : Nat} {f0 : List Int} {f1 : Int} {f2 : Int} {p : Addr} (h : IsS75 w0 W g f0 f1 f2) (hne : g ≠ p.block) (u : Value) : IsS75 w0 (W.setCell p u) g f0 f1 f2 := by
  obtain ⟨A0, c0, hb, hg, hr0⟩ := h
  exact ⟨A0, c0, blk_far hb hne u, hg, hr0⟩
theorem cellS75_0 {W : World} {g : Nat} {A0 : Option Addr} {c0 : Nat} {f0 : List Int} {f1 : Int} {f2 : Int} (h : W.heap[g]? = some (.cells #[.slice A0 f0.length c0, .int .i64 f1, .int .i64 f2] 75 (0, 0))) : W.cell? ⟨g, 0, none⟩ = some (.slice A0 f0.length c0) := (blk_cell h 0).trans rfl
theorem cellS75_1 {W : World} {g : Nat} {A0 : Option Addr} {c0 : Nat} {f0 : List Int} {f1 : Int} {f2 : Int} (h : W.heap[g]? = some (.cells #[.slice A0 f0.length c0, .int .i64 f1, .int .i64 f2] 75 (0, 0))) : W.cell? ⟨g, 1, none⟩ = some (.int .i64 f1) := (blk_cell h 1).trans rfl
theorem IsS75.set_1 {w0 W : World} {g : Nat} {f0 : List Int} {f1 : Int} {f2 : Int} (h : IsS75 w0 W g f0 f1 f2) (x : Int) : IsS75 w0 (W.setCell ⟨g, 1, none⟩ (.int .i64 x)) g f0 x f2 := by
  obtain ⟨A0, c0, hb, hg, hr0⟩ := h
  exact ⟨A0, c0, by simpa using blk_set hb 1 (.int .i64 x), hg, hr0⟩
theorem cellS75_2 {W : World} {g : Nat} {A0 : Option Addr} {c0 : Nat} {f0 : List Int} {f1 : Int} {f2 : Int} (h : W.heap[g]? = some (.cells #[.slice A0 f0.length c0, .int .i64 f1, .int .i64 f2] 75 (0, 0))) : W.cell? ⟨g, 2, none⟩ = some (.int .i64 f2) := (blk_cell h 2).trans rfl
theorem IsS75.set_2 {w0 W : World} {g : Nat} {f0 : List Int} {f1 : Int} {f2 : Int} (h : IsS75 w0 W g f0 f1 f2) (x : Int) : IsS75 w0 (W.setCell ⟨g, 2, none⟩ (.int .i64 x)) g f0 f1 x := by
  obtain ⟨A0, c0, hb, hg, hr0⟩ := h
  exact ⟨A0, c0, by simpa using blk_set hb 2 (.int .i64 x), hg, hr0⟩
theorem IsS75.new (w0 W : World) (A0 : Option Addr) (c0 : Nat) (f0 : List Int) (f1 : Int) (f2 : Int) (hB : Below w0.heap.size w0 W) (hr0 : Kd.C (Kd.int .u8) w0 A0 f0.length f0) : IsS75 w0 (W.alloc (.cells #[.slice A0 f0.length c0, .int .i64 f1, .int .i64 f2] 75)) W.heap.size f0 f1 f2 := ⟨A0, c0, by simpa using heap_alloc_new W _, hB.size, hr0⟩

/-! ### spec_l1New: function 30 -/
def spec_l1New.l0 : Nat → List Int → Int → Int → Option (List Int × Int × Int)
  | 0, _, _, _ => none
  | k + 1, x0, x3, x4 => if x4 < (x0.length : Int) then (if x4 < 4000 then (if 0 ≤ x4 then (spec_l1New.l0 k x0 (Go.bits .and .i64 (wrap64 ((wrap64 ((wrap64 (x3 * 131)) + (wrap64 (rd x0 x4)))) + 7)) 1073741823) (wrap64 (x4 + 1))) else (none)) else (some (x0, 0, x3))) else (some (x0, 0, x3))
def spec_l1New.f (k : Nat) (l0 : List Int) : Option (List Int × Int × Int) := spec_l1New.l0 k l0 (wrap64 (18554 + (l0.length : Int))) 0
set_option maxHeartbeats 8000000 in
set_option maxRecDepth 100000 in
theorem spec_l1New.calls (k : Nat) (A0 : Option Addr) (c0 : Nat) (l0 : List Int) (r1 : List Int) (r2 : Int) (r3 : Int) (w0 w : World) (hB : Below w0.heap.size w0 w) (hr0 : Kd.C (Kd.int .u8) w0 A0 l0.length l0) (hc0 : l0.length ≤ c0) (h : spec_l1New.f k l0 = some (r1, r2, r3)) :
    Calls Tryd.prog 30 #[.slice A0 l0.length c0] w fun e w' => ∃ g_ : Nat, e = .returned (.pointer (some ⟨g_, 0, none⟩)) ∧ IsS75 w0 w' g_ r1 r2 r3 ∧ Below w0.heap.size w0 w' ∧ Below w.heap.size w w' := by
  have hu75 := Tryd.underlying75
  have HR0 := Aside0.mk hr0
  have HC0 := Aside0.mk hc0
  clear hr0 hc0
  have HBW := Aside0.mk (Below.refl w.heap.size w)
  have HW0 := Aside0.mk hB.size
  have HB := Aside0.mk hB
  clear hB
  have H : (spec_l1New.l0 k l0 (wrap64 (18554 + (l0.length : Int))) 0) = some (r1, r2, r3) := h
  clear h
  have H' := Aside0.mk H
  clear H
  go_enter Tryd.func30, Tryd.ntmps30
  go_wp2
  go_loopg [3, 4] k (fun kq v3 v4 w' => ∃ (x3_1 : Int) (x4_1 : Int), v3 = .int .i64 x3_1 ∧ v4 = .int .i64 x4_1 ∧ Aside0 (spec_l1New.l0 kq l0 x3_1 x4_1 = some (r1, r2, r3)) ∧ Aside0 (kq ≤ k) ∧ Aside0 (Below w0.heap.size w0 w') ∧ Aside0 (Below w.heap.size w w'))
  case atStart => exact ⟨(wrap64 (18554 + (l0.length : Int))), (0), (by first | rfl | (simp; done) | (simp [*]; done)), (by first | rfl | (simp; done) | (simp [*]; done)), H', ⟨Nat.le_refl _⟩, ⟨by repeat (first | (with_reducible first | exact HB.out | apply below_alloc | apply pw_below_drewN | apply below_drew1) | exact HB.out)⟩, ⟨by repeat (first | (with_reducible first | exact HBW.out | apply below_alloc | apply pw_below_drewN | apply below_drew1) | exact HBW.out)⟩⟩
  case round =>
    clear H'
    obtain ⟨x3_1, x4_1, rfl, rfl, HA, HK1, HB, HBW⟩ := hrel
    cases gk with
    | zero => exact absurd HA.out (by simp [spec_l1New.l0])
    | succ k1 =>
      have H := HA.out
      clear HA
      simp only [spec_l1New.l0] at H
      by_cases c2 : x4_1 < (l0.length : Int)
      · rw [if_pos c2] at H
        have c2b0 : decide (x4_1 < (l0.length : Int)) = true := decide_eq_true c2
        clear c2
        by_cases c3 : x4_1 < 4000
        · rw [if_pos c3] at H
          have c3b0 : decide (x4_1 < 4000) = true := decide_eq_true c3
          clear c3
          by_cases c4 : 0 ≤ x4_1
          · rw [if_pos c4] at H
            have c4b0 : decide (0 ≤ x4_1) = true := decide_eq_true c4
            clear c4
            have H' := Aside0.mk H
            clear H
            have p265 : 0 ≤ (x4_1 : Int) := of_decide_eq_true (by first | (with_reducible assumption) | assumption)
            have q265 : x4_1 < (l0.length : Int) := of_decide_eq_true (by first | (with_reducible assumption) | assumption)
            obtain ⟨ad265, e265, hx265_0⟩ := Kd.at_int HR0.out x4_1 p265 q265
            cases e265
            replace hx265_0 := pw_cell_below HB.out hx265_0
            replace p265 := eq_true p265
            replace q265 := eq_true q265
            go_wp2
            go_roundg k1
            case measure => have := HK1.out; omega
            case rel => exact ⟨(Go.bits .and .i64 (wrap64 ((wrap64 ((wrap64 (x3_1 * 131)) + (wrap64 (rd l0 x4_1)))) + 7)) 1073741823), (wrap64 (x4_1 + 1)), (by first | rfl | (simp; done) | (simp [*]; done)), (by first | rfl | (simp; done) | (simp [*]; done)), H', ⟨by have := HK1.out; omega⟩, ⟨by repeat (first | (with_reducible first | exact HB.out | apply below_alloc | apply pw_below_drewN | apply below_drew1) | exact HB.out)⟩, ⟨by repeat (first | (with_reducible first | exact HBW.out | apply below_alloc | apply pw_below_drewN | apply below_drew1) | exact HBW.out)⟩⟩
          · rw [if_neg c4] at H
            exact absurd H (by simp)
        · rw [if_neg c3] at H
          have c3b0 : decide (x4_1 < 4000) = false := decide_eq_false c3
          clear c3
          simp only [Option.some.injEq, Prod.mk.injEq] at H
          obtain ⟨rfl, rfl, rfl⟩ := H
          go_wp2_with (first | ((with_reducible refine gate_dst (N := 31) rfl ?_); refine box_event ?hg (N := 31) ?hd (cs := #[.slice A0 l0.length c0, .int .i64 0, .int .i64 x3_1]) (t := 75) ?hr ?_; (case hd => rfl); (case hg => rfl); (case hr => first | (go_simp; done) | (go_simp; rfl)); intro gb266 hg w5 hbox hb; have n0_ := Aside0.mk (below_step HBW.out hb); have n1_ := Aside0.mk (below_step (by repeat (first | (with_reducible first | exact HB.out | apply below_alloc | apply pw_below_drewN | apply below_drew1) | exact HB.out)) hb); have n2_ := Aside0.mk (hbox); have n3_ := Aside0.mk ((by rw [hg]; exact (below_size (by repeat (first | (with_reducible first | exact HBW.out | apply below_alloc | apply pw_below_drewN | apply below_drew1) | exact HBW.out))) : w.heap.size ≤ gb266)); have n4_ := Aside0.mk ((Nat.le_trans HW0.out (by rw [hg]; exact (below_size (by repeat (first | (with_reducible first | exact HBW.out | apply below_alloc | apply pw_below_drewN | apply below_drew1) | exact HBW.out))) : w.heap.size ≤ gb266) : w0.heap.size ≤ gb266)); clear HBW; clear HB; have HBW := n0_; have HB := n1_; have BK266 := n2_; have GW266 := n3_; have GE266 := n4_; clear n0_ n1_ n2_ n3_ n4_; clear hb hbox hg))
          go_ret
          exact ⟨_, rfl, (show IsS75 w0 _ gb266 l0 0 x3_1 from ⟨_, _, by (with_reducible repeat (first | refine blk_drewN ?_ _ | refine blk_drew ?_ | refine blk_alloc ?_ _)); exact BK266.out, GE266.out, HR0.out⟩), by repeat (first | (with_reducible first | exact HB.out | apply below_alloc | apply pw_below_drewN | apply below_drew1 | refine below_set ?_ GE266.out) | exact HB.out), by repeat (first | (with_reducible first | exact HBW.out | apply below_alloc | apply pw_below_drewN | apply below_drew1 | refine below_set ?_ GW266.out) | exact HBW.out)⟩
      · rw [if_neg c2] at H
        have c2b0 : decide (x4_1 < (l0.length : Int)) = false := decide_eq_false c2
        clear c2
        simp only [Option.some.injEq, Prod.mk.injEq] at H
        obtain ⟨rfl, rfl, rfl⟩ := H
        go_wp2_with (first | ((with_reducible refine gate_dst (N := 31) rfl ?_); refine box_event ?hg (N := 31) ?hd (cs := #[.slice A0 l0.length c0, .int .i64 0, .int .i64 x3_1]) (t := 75) ?hr ?_; (case hd => rfl); (case hg => rfl); (case hr => first | (go_simp; done) | (go_simp; rfl)); intro gb267 hg w6 hbox hb; have n0_ := Aside0.mk (below_step HBW.out hb); have n1_ := Aside0.mk (below_step (by repeat (first | (with_reducible first | exact HB.out | apply below_alloc | apply pw_below_drewN | apply below_drew1) | exact HB.out)) hb); have n2_ := Aside0.mk (hbox); have n3_ := Aside0.mk ((by rw [hg]; exact (below_size (by repeat (first | (with_reducible first | exact HBW.out | apply below_alloc | apply pw_below_drewN | apply below_drew1) | exact HBW.out))) : w.heap.size ≤ gb267)); have n4_ := Aside0.mk ((Nat.le_trans HW0.out (by rw [hg]; exact (below_size (by repeat (first | (with_reducible first | exact HBW.out | apply below_alloc | apply pw_below_drewN | apply below_drew1) | exact HBW.out))) : w.heap.size ≤ gb267) : w0.heap.size ≤ gb267)); clear HBW; clear HB; have HBW := n0_; have HB := n1_; have BK267 := n2_; have GW267 := n3_; have GE267 := n4_; clear n0_ n1_ n2_ n3_ n4_; clear hb hbox hg))
        go_ret
        exact ⟨_, rfl, (show IsS75 w0 _ gb267 l0 0 x3_1 from ⟨_, _, by (with_reducible repeat (first | refine blk_drewN ?_ _ | refine blk_drew ?_ | refine blk_alloc ?_ _)); exact BK267.out, GE267.out, HR0.out⟩), by repeat (first | (with_reducible first | exact HB.out | apply below_alloc | apply pw_below_drewN | apply below_drew1 | refine below_set ?_ GE267.out) | exact HB.out), by repeat (first | (with_reducible first | exact HBW.out | apply below_alloc | apply pw_below_drewN | apply below_drew1 | refine below_set ?_ GW267.out) | exact HBW.out)⟩

/-! ### spec_l1Byte: function 61 -/
def spec_l1Byte.f (s0_0 : List Int) (s0_1 : Int) (s0_2 : Int) : Option (Int × Int × Int) := if s0_1 < (s0_0.length : Int) then (if 0 ≤ s0_1 then (some (Go.bits .and .i64 (wrap64 ((Go.bits .and .i64 (Go.bits .xor .i64 ((wrap64 ((wrap64 (s0_2 * 6364136223846793005)) + 1442695040888963407)) / 8589934592) ((wrap64 ((wrap64 (s0_2 * 6364136223846793005)) + 1442695040888963407)) / 35184372088832)) 255) + (wrap64 (rd s0_0 s0_1)))) 255, wrap64 (s0_1 + 1), wrap64 ((wrap64 (s0_2 * 6364136223846793005)) + 1442695040888963407))) else (none)) else (some (Go.bits .and .i64 (Go.bits .xor .i64 ((wrap64 ((wrap64 (s0_2 * 6364136223846793005)) + 1442695040888963407)) / 8589934592) ((wrap64 ((wrap64 (s0_2 * 6364136223846793005)) + 1442695040888963407)) / 35184372088832)) 255, s0_1, wrap64 ((wrap64 (s0_2 * 6364136223846793005)) + 1442695040888963407)))
set_option maxHeartbeats 8000000 in
set_option maxRecDepth 100000 in
theorem spec_l1Byte.calls (g : Nat) (s0_0 : List Int) (s0_1 : Int) (s0_2 : Int) (r1 : Int) (r2 : Int) (r3 : Int) (w0 w : World) (hI : IsS75 w0 w g s0_0 s0_1 s0_2) (hB : Below w0.heap.size w0 w) (h : spec_l1Byte.f s0_0 s0_1 s0_2 = some (r1, r2, r3)) :
    Calls Tryd.prog 61 #[.pointer (some ⟨g, 0, none⟩)] w fun e w' => e = .returned (.int .i64 r1) ∧ IsS75 w0 w' g s0_0 r2 r3 ∧ Below w0.heap.size w0 w' ∧ KeepBut w w' g none := by
  have HI0 := Aside0.mk hI
  have HK := Aside0.mk (KeepBut.refl w g none)
  have HL := Aside0.mk hB.size
  clear hI
  have HW0 := Aside0.mk hB.size
  have HB := Aside0.mk hB
  clear hB
  have H : (if s0_1 < (s0_0.length : Int) then (if 0 ≤ s0_1 then (some (Go.bits .and .i64 (wrap64 ((Go.bits .and .i64 (Go.bits .xor .i64 ((wrap64 ((wrap64 (s0_2 * 6364136223846793005)) + 1442695040888963407)) / 8589934592) ((wrap64 ((wrap64 (s0_2 * 6364136223846793005)) + 1442695040888963407)) / 35184372088832)) 255) + (wrap64 (rd s0_0 s0_1)))) 255, wrap64 (s0_1 + 1), wrap64 ((wrap64 (s0_2 * 6364136223846793005)) + 1442695040888963407))) else (none)) else (some (Go.bits .and .i64 (Go.bits .xor .i64 ((wrap64 ((wrap64 (s0_2 * 6364136223846793005)) + 1442695040888963407)) / 8589934592) ((wrap64 ((wrap64 (s0_2 * 6364136223846793005)) + 1442695040888963407)) / 35184372088832)) 255, s0_1, wrap64 ((wrap64 (s0_2 * 6364136223846793005)) + 1442695040888963407)))) = some (r1, r2, r3) := h
  clear h
  by_cases c2 : s0_1 < (s0_0.length : Int)
  · rw [if_pos c2] at H
    have c2b0 : decide (s0_1 < (s0_0.length : Int)) = true := decide_eq_true c2
    clear c2
    by_cases c3 : 0 ≤ s0_1
    · rw [if_pos c3] at H
      have c3b0 : decide (0 ≤ s0_1) = true := decide_eq_true c3
      clear c3
      simp only [Option.some.injEq, Prod.mk.injEq] at H
      obtain ⟨rfl, rfl, rfl⟩ := H
      obtain ⟨ASz4_0, cSz4_0, HGz4, hgz4, HSz4_0⟩ := HI0.out
      have hcz4_0 := cellS75_0 HGz4
      have hcz4_1 := cellS75_1 HGz4
      have hcz4_2 := cellS75_2 HGz4
      have hfz4_1 := blk_frozen HGz4 1
      have hfz4_2 := blk_frozen HGz4 2
      clear HGz4 hgz4
      have p268 : 0 ≤ (s0_1 : Int) := of_decide_eq_true (by first | (with_reducible assumption) | assumption)
      have q268 : s0_1 < (s0_0.length : Int) := of_decide_eq_true (by first | (with_reducible assumption) | assumption)
      obtain ⟨ad268, e268, hx268_0⟩ := Kd.at_int HSz4_0 s0_1 p268 q268
      cases e268
      have hn268_0 : ad268.block ≠ g := Nat.ne_of_lt (Nat.lt_of_lt_of_le (by have := World.block_lt_of_cell? _ _ hx268_0; first | rwa [add_block] at this | exact this) (IsS75.ge HI0.out))
      replace hx268_0 := pw_cell_below HB.out hx268_0
      replace hx268_0 := (cell_far (p := ⟨g, 2, none⟩) (by first | (rw [add_block]; exact hn268_0) | (show (Addr.add _ _).block ≠ _; rw [add_block]; exact hn268_0) | exact hn268_0) (.int .i64 (wrap64 ((wrap64 (s0_2 * 6364136223846793005)) + 1442695040888963407)))).trans hx268_0
      (try have hy268_0 := fun (n_ : Nat) => (show (((w.drewN n_).setCell ⟨g, 2, none⟩ (.int .i64 (wrap64 ((wrap64 (s0_2 * 6364136223846793005)) + 1442695040888963407))))).cell? _ = some _ from hx268_0))
      clear hn268_0
      replace p268 := eq_true p268
      replace q268 := eq_true q268
      go_enter Tryd.func61, Tryd.ntmps61
      go_wp2
      repeat (go_quiet (fail); try go_wp2)
      go_ret
      exact ⟨by first | rfl | (simp [errW_none, errW_some] <;> rfl) | (simp [*, errW_none, errW_some] <;> rfl), by repeat (first | (with_reducible first | exact HI0.out | apply IsS75.alloc | apply IsS75.drewN | apply IsS75.drew | apply IsS75.set_1 | apply IsS75.set_2) | exact HI0.out), by repeat (first | (with_reducible first | exact HB.out | apply below_alloc | apply pw_below_drewN | apply below_drew1 | refine below_set ?_ (IsS75.ge HI0.out)) | exact HB.out), by repeat (first | (with_reducible first | exact HK.out | apply KeepBut.set_ | apply keep_drewN | apply keep_drew | apply keep_alloc) | exact HK.out)⟩
    · rw [if_neg c3] at H
      exact absurd H (by simp)
  · rw [if_neg c2] at H
    have c2b0 : decide (s0_1 < (s0_0.length : Int)) = false := decide_eq_false c2
    clear c2
    simp only [Option.some.injEq, Prod.mk.injEq] at H
    obtain ⟨rfl, rfl, rfl⟩ := H
    obtain ⟨ASz5_0, cSz5_0, HGz5, hgz5, HSz5_0⟩ := HI0.out
    have hcz5_0 := cellS75_0 HGz5
    have hcz5_1 := cellS75_1 HGz5
    have hcz5_2 := cellS75_2 HGz5
    have hfz5_1 := blk_frozen HGz5 1
    have hfz5_2 := blk_frozen HGz5 2
    clear HGz5 hgz5
    go_enter Tryd.func61, Tryd.ntmps61
    go_wp2
    repeat (go_quiet (fail); try go_wp2)
    go_ret
    exact ⟨by first | rfl | (simp [errW_none, errW_some] <;> rfl) | (simp [*, errW_none, errW_some] <;> rfl), by repeat (first | (with_reducible first | exact HI0.out | apply IsS75.alloc | apply IsS75.drewN | apply IsS75.drew | apply IsS75.set_1 | apply IsS75.set_2) | exact HI0.out), by repeat (first | (with_reducible first | exact HB.out | apply below_alloc | apply pw_below_drewN | apply below_drew1 | refine below_set ?_ (IsS75.ge HI0.out)) | exact HB.out), by repeat (first | (with_reducible first | exact HK.out | apply KeepBut.set_ | apply keep_drewN | apply keep_drew | apply keep_alloc) | exact HK.out)⟩

/-! ### spec_l1Below: function 47 -/
def spec_l1Below.f (s0_0 : List Int) (s0_1 : Int) (s0_2 : Int) (a1 : Int) : Option (Int × Int × Int) := if a1 ≤ 0 then (some (0, s0_1, s0_2)) else (if a1 ≤ 256 then ((spec_l1Byte.f s0_0 s0_1 s0_2).bind fun bt269 => (if a1 = 0 then (none) else (some (Int.tmod bt269.1 a1, bt269.2.1, bt269.2.2)))) else ((spec_l1Byte.f s0_0 s0_1 s0_2).bind fun bt272 => ((spec_l1Byte.f s0_0 bt272.2.1 bt272.2.2).bind fun bt275 => ((spec_l1Byte.f s0_0 bt275.2.1 bt275.2.2).bind fun bt278 => ((spec_l1Byte.f s0_0 bt278.2.1 bt278.2.2).bind fun bt281 => (if a1 = 0 then (none) else (some (Int.tmod (wrap64 ((wrap64 ((wrap64 ((wrap64 (bt272.1 * 16777216)) + (wrap64 (bt275.1 * 65536)))) + (wrap64 (bt278.1 * 256)))) + bt281.1)) a1, bt281.2.1, bt281.2.2))))))))
set_option maxHeartbeats 8000000 in
set_option maxRecDepth 100000 in
theorem spec_l1Below.calls (g : Nat) (s0_0 : List Int) (s0_1 : Int) (s0_2 : Int) (a1 : Int) (r1 : Int) (r2 : Int) (r3 : Int) (w0 w : World) (hI : IsS75 w0 w g s0_0 s0_1 s0_2) (hB : Below w0.heap.size w0 w) (h : spec_l1Below.f s0_0 s0_1 s0_2 a1 = some (r1, r2, r3)) :
    Calls Tryd.prog 47 #[.pointer (some ⟨g, 0, none⟩), .int .i64 a1] w fun e w' => e = .returned (.int .i64 r1) ∧ IsS75 w0 w' g s0_0 r2 r3 ∧ Below w0.heap.size w0 w' ∧ KeepBut w w' g none := by
  have HI0 := Aside0.mk hI
  have HK := Aside0.mk (KeepBut.refl w g none)
  have HL := Aside0.mk hB.size
  clear hI
  have HW0 := Aside0.mk hB.size
  have HB := Aside0.mk hB
  clear hB
  have H : (if a1 ≤ 0 then (some (0, s0_1, s0_2)) else (if a1 ≤ 256 then ((spec_l1Byte.f s0_0 s0_1 s0_2).bind fun bt269 => (if a1 = 0 then (none) else (some (Int.tmod bt269.1 a1, bt269.2.1, bt269.2.2)))) else ((spec_l1Byte.f s0_0 s0_1 s0_2).bind fun bt272 => ((spec_l1Byte.f s0_0 bt272.2.1 bt272.2.2).bind fun bt275 => ((spec_l1Byte.f s0_0 bt275.2.1 bt275.2.2).bind fun bt278 => ((spec_l1Byte.f s0_0 bt278.2.1 bt278.2.2).bind fun bt281 => (if a1 = 0 then (none) else (some (Int.tmod (wrap64 ((wrap64 ((wrap64 ((wrap64 (bt272.1 * 16777216)) + (wrap64 (bt275.1 * 65536)))) + (wrap64 (bt278.1 * 256)))) + bt281.1)) a1, bt281.2.1, bt281.2.2))))))))) = some (r1, r2, r3) := h
  clear h
  by_cases c3 : a1 ≤ 0
  · rw [if_pos c3] at H
    have c3b0 : decide (a1 ≤ 0) = true := decide_eq_true c3
    clear c3
    simp only [Option.some.injEq, Prod.mk.injEq] at H
    obtain ⟨rfl, rfl, rfl⟩ := H
    go_enter Tryd.func47, Tryd.ntmps47
    go_wp2
    go_ret
    exact ⟨by first | rfl | (simp [errW_none, errW_some] <;> rfl) | (simp [*, errW_none, errW_some] <;> rfl), by repeat (first | (with_reducible first | exact HI0.out | apply IsS75.alloc | apply IsS75.drewN | apply IsS75.drew | apply IsS75.set_1 | apply IsS75.set_2) | exact HI0.out), by repeat (first | (with_reducible first | exact HB.out | apply below_alloc | apply pw_below_drewN | apply below_drew1 | refine below_set ?_ (IsS75.ge HI0.out)) | exact HB.out), by repeat (first | (with_reducible first | exact HK.out | apply KeepBut.set_ | apply keep_drewN | apply keep_drew | apply keep_alloc) | exact HK.out)⟩
  · rw [if_neg c3] at H
    have c3b0 : decide (a1 ≤ 0) = false := decide_eq_false c3
    clear c3
    by_cases c4 : a1 ≤ 256
    · rw [if_pos c4] at H
      have c4b0 : decide (a1 ≤ 256) = true := decide_eq_true c4
      clear c4
      replace H := Option.bind_eq_some_iff.mp H
      obtain ⟨⟨t269, t270, t271⟩, A50, H⟩ := H
      replace H : (if a1 = 0 then (none) else (some (Int.tmod t269 a1, t270, t271))) = some (r1, r2, r3) := H
      have A5 := Aside0.mk A50
      clear A50
      by_cases c6 : a1 = 0
      · rw [if_pos c6] at H
        exact absurd H (by simp)
      · rw [if_neg c6] at H
        have c6b0 : (a1 == 0) = false := beq_eq_false_iff_ne.mpr c6
        have c6b1 : (a1 != 0) = true := bne_iff_ne.mpr c6
        simp only [Option.some.injEq, Prod.mk.injEq] at H
        obtain ⟨rfl, rfl, rfl⟩ := H
        go_enter Tryd.func47, Tryd.ntmps47
        go_wp2_with (first | ((with_reducible refine gate_callee (f := 61) rfl ?_); refine goesL_ (some 14) rfl rfl Tryd.func61 (by kernel_rfl) rfl #[.pointer (some ⟨g, 0, none⟩)] rfl (by (try simp only [List.map_toArray, List.map_cons, List.map_nil]); first | done | rfl | (simp only [List.length_drop, List.length_take]; rfl)) ?_; (with_reducible refine (spec_l1Byte.calls g s0_0 s0_1 s0_2 t269 t270 t271 w0 _ ?side1 ?side2 A5.out).mono ?_); (case side1 => repeat (first | (with_reducible first | exact HI0.out | apply IsS75.alloc | apply IsS75.drewN | apply IsS75.drew | apply IsS75.set_1 | apply IsS75.set_2) | exact HI0.out)); (case side2 => repeat (first | (with_reducible first | exact HB.out | apply below_alloc | apply pw_below_drewN | apply below_drew1 | refine below_set ?_ (IsS75.ge HI0.out)) | exact HB.out)); rintro e w7 ⟨rfl, hi, hb, hk⟩; refine ⟨_, rfl, ?_⟩; have n0_ := Aside0.mk (KeepBut.trans (by repeat (first | (with_reducible first | exact HK.out | apply KeepBut.set_ | apply keep_drewN | apply keep_drew | apply keep_alloc) | exact HK.out)) hk (.inl rfl)); have n1_ := Aside0.mk (hb); have n2_ := Aside0.mk (hi); clear HK; clear HB; clear HI0; have HK := n0_; have HB := n1_; have HI0 := n2_; clear n0_ n1_ n2_; (try clear hb); (try clear hb2); (try clear hk); (try clear hi)))
        go_ret
        exact ⟨by first | rfl | (simp [errW_none, errW_some] <;> rfl) | (simp [*, errW_none, errW_some] <;> rfl), by repeat (first | (with_reducible first | exact HI0.out | apply IsS75.alloc | apply IsS75.drewN | apply IsS75.drew | apply IsS75.set_1 | apply IsS75.set_2) | exact HI0.out), by repeat (first | (with_reducible first | exact HB.out | apply below_alloc | apply pw_below_drewN | apply below_drew1 | refine below_set ?_ (IsS75.ge HI0.out)) | exact HB.out), by repeat (first | (with_reducible first | exact HK.out | apply KeepBut.set_ | apply keep_drewN | apply keep_drew | apply keep_alloc) | exact HK.out)⟩
    · rw [if_neg c4] at H
      have c4b0 : decide (a1 ≤ 256) = false := decide_eq_false c4
      clear c4
      replace H := Option.bind_eq_some_iff.mp H
      obtain ⟨⟨t272, t273, t274⟩, A80, H⟩ := H
      replace H : ((spec_l1Byte.f s0_0 t273 t274).bind fun bt275 => ((spec_l1Byte.f s0_0 bt275.2.1 bt275.2.2).bind fun bt278 => ((spec_l1Byte.f s0_0 bt278.2.1 bt278.2.2).bind fun bt281 => (if a1 = 0 then (none) else (some (Int.tmod (wrap64 ((wrap64 ((wrap64 ((wrap64 (t272 * 16777216)) + (wrap64 (bt275.1 * 65536)))) + (wrap64 (bt278.1 * 256)))) + bt281.1)) a1, bt281.2.1, bt281.2.2)))))) = some (r1, r2, r3) := H
      have A8 := Aside0.mk A80
      clear A80
      replace H := Option.bind_eq_some_iff.mp H
      obtain ⟨⟨t275, t276, t277⟩, A90, H⟩ := H
      replace H : ((spec_l1Byte.f s0_0 t276 t277).bind fun bt278 => ((spec_l1Byte.f s0_0 bt278.2.1 bt278.2.2).bind fun bt281 => (if a1 = 0 then (none) else (some (Int.tmod (wrap64 ((wrap64 ((wrap64 ((wrap64 (t272 * 16777216)) + (wrap64 (t275 * 65536)))) + (wrap64 (bt278.1 * 256)))) + bt281.1)) a1, bt281.2.1, bt281.2.2))))) = some (r1, r2, r3) := H
      have A9 := Aside0.mk A90
      clear A90
      replace H := Option.bind_eq_some_iff.mp H
      obtain ⟨⟨t278, t279, t280⟩, A100, H⟩ := H
      replace H : ((spec_l1Byte.f s0_0 t279 t280).bind fun bt281 => (if a1 = 0 then (none) else (some (Int.tmod (wrap64 ((wrap64 ((wrap64 ((wrap64 (t272 * 16777216)) + (wrap64 (t275 * 65536)))) + (wrap64 (t278 * 256)))) + bt281.1)) a1, bt281.2.1, bt281.2.2)))) = some (r1, r2, r3) := H
      have A10 := Aside0.mk A100
      clear A100
      replace H := Option.bind_eq_some_iff.mp H
      obtain ⟨⟨t281, t282, t283⟩, A110, H⟩ := H
      replace H : (if a1 = 0 then (none) else (some (Int.tmod (wrap64 ((wrap64 ((wrap64 ((wrap64 (t272 * 16777216)) + (wrap64 (t275 * 65536)))) + (wrap64 (t278 * 256)))) + t281)) a1, t282, t283))) = some (r1, r2, r3) := H
      have A11 := Aside0.mk A110
      clear A110
      by_cases c12 : a1 = 0
      · rw [if_pos c12] at H
        exact absurd H (by simp)
      · rw [if_neg c12] at H
        have c12b0 : (a1 == 0) = false := beq_eq_false_iff_ne.mpr c12
        have c12b1 : (a1 != 0) = true := bne_iff_ne.mpr c12
        simp only [Option.some.injEq, Prod.mk.injEq] at H
        obtain ⟨rfl, rfl, rfl⟩ := H
        go_enter Tryd.func47, Tryd.ntmps47
        go_wp2_with (first | ((with_reducible refine gate_callee (f := 61) rfl ?_); refine goesL_ (some 18) rfl rfl Tryd.func61 (by kernel_rfl) rfl #[.pointer (some ⟨g, 0, none⟩)] rfl (by (try simp only [List.map_toArray, List.map_cons, List.map_nil]); first | done | rfl | (simp only [List.length_drop, List.length_take]; rfl)) ?_; (with_reducible refine (spec_l1Byte.calls g s0_0 s0_1 s0_2 t272 t273 t274 w0 _ ?side1 ?side2 A8.out).mono ?_); (case side1 => repeat (first | (with_reducible first | exact HI0.out | apply IsS75.alloc | apply IsS75.drewN | apply IsS75.drew | apply IsS75.set_1 | apply IsS75.set_2) | exact HI0.out)); (case side2 => repeat (first | (with_reducible first | exact HB.out | apply below_alloc | apply pw_below_drewN | apply below_drew1 | refine below_set ?_ (IsS75.ge HI0.out)) | exact HB.out)); rintro e w13 ⟨rfl, hi, hb, hk⟩; refine ⟨_, rfl, ?_⟩; have n0_ := Aside0.mk (KeepBut.trans (by repeat (first | (with_reducible first | exact HK.out | apply KeepBut.set_ | apply keep_drewN | apply keep_drew | apply keep_alloc) | exact HK.out)) hk (.inl rfl)); have n1_ := Aside0.mk (hb); have n2_ := Aside0.mk (hi); clear HK; clear HB; clear HI0; have HK := n0_; have HB := n1_; have HI0 := n2_; clear n0_ n1_ n2_; (try clear hb); (try clear hb2); (try clear hk); (try clear hi)) | ((with_reducible refine gate_callee (f := 61) rfl ?_); refine goesL_ (some 20) rfl rfl Tryd.func61 (by kernel_rfl) rfl #[.pointer (some ⟨g, 0, none⟩)] rfl (by (try simp only [List.map_toArray, List.map_cons, List.map_nil]); first | done | rfl | (simp only [List.length_drop, List.length_take]; rfl)) ?_; (with_reducible refine (spec_l1Byte.calls g s0_0 t273 t274 t275 t276 t277 w0 _ ?side1 ?side2 A9.out).mono ?_); (case side1 => repeat (first | (with_reducible first | exact HI0.out | apply IsS75.alloc | apply IsS75.drewN | apply IsS75.drew | apply IsS75.set_1 | apply IsS75.set_2) | exact HI0.out)); (case side2 => repeat (first | (with_reducible first | exact HB.out | apply below_alloc | apply pw_below_drewN | apply below_drew1 | refine below_set ?_ (IsS75.ge HI0.out)) | exact HB.out)); rintro e w14 ⟨rfl, hi, hb, hk⟩; refine ⟨_, rfl, ?_⟩; have n0_ := Aside0.mk (KeepBut.trans (by repeat (first | (with_reducible first | exact HK.out | apply KeepBut.set_ | apply keep_drewN | apply keep_drew | apply keep_alloc) | exact HK.out)) hk (.inl rfl)); have n1_ := Aside0.mk (hb); have n2_ := Aside0.mk (hi); clear HK; clear HB; clear HI0; have HK := n0_; have HB := n1_; have HI0 := n2_; clear n0_ n1_ n2_; (try clear hb); (try clear hb2); (try clear hk); (try clear hi)) | ((with_reducible refine gate_callee (f := 61) rfl ?_); refine goesL_ (some 22) rfl rfl Tryd.func61 (by kernel_rfl) rfl #[.pointer (some ⟨g, 0, none⟩)] rfl (by (try simp only [List.map_toArray, List.map_cons, List.map_nil]); first | done | rfl | (simp only [List.length_drop, List.length_take]; rfl)) ?_; (with_reducible refine (spec_l1Byte.calls g s0_0 t276 t277 t278 t279 t280 w0 _ ?side1 ?side2 A10.out).mono ?_); (case side1 => repeat (first | (with_reducible first | exact HI0.out | apply IsS75.alloc | apply IsS75.drewN | apply IsS75.drew | apply IsS75.set_1 | apply IsS75.set_2) | exact HI0.out)); (case side2 => repeat (first | (with_reducible first | exact HB.out | apply below_alloc | apply pw_below_drewN | apply below_drew1 | refine below_set ?_ (IsS75.ge HI0.out)) | exact HB.out)); rintro e w15 ⟨rfl, hi, hb, hk⟩; refine ⟨_, rfl, ?_⟩; have n0_ := Aside0.mk (KeepBut.trans (by repeat (first | (with_reducible first | exact HK.out | apply KeepBut.set_ | apply keep_drewN | apply keep_drew | apply keep_alloc) | exact HK.out)) hk (.inl rfl)); have n1_ := Aside0.mk (hb); have n2_ := Aside0.mk (hi); clear HK; clear HB; clear HI0; have HK := n0_; have HB := n1_; have HI0 := n2_; clear n0_ n1_ n2_; (try clear hb); (try clear hb2); (try clear hk); (try clear hi)) | ((with_reducible refine gate_callee (f := 61) rfl ?_); refine goesL_ (some 24) rfl rfl Tryd.func61 (by kernel_rfl) rfl #[.pointer (some ⟨g, 0, none⟩)] rfl (by (try simp only [List.map_toArray, List.map_cons, List.map_nil]); first | done | rfl | (simp only [List.length_drop, List.length_take]; rfl)) ?_; (with_reducible refine (spec_l1Byte.calls g s0_0 t279 t280 t281 t282 t283 w0 _ ?side1 ?side2 A11.out).mono ?_); (case side1 => repeat (first | (with_reducible first | exact HI0.out | apply IsS75.alloc | apply IsS75.drewN | apply IsS75.drew | apply IsS75.set_1 | apply IsS75.set_2) | exact HI0.out)); (case side2 => repeat (first | (with_reducible first | exact HB.out | apply below_alloc | apply pw_below_drewN | apply below_drew1 | refine below_set ?_ (IsS75.ge HI0.out)) | exact HB.out)); rintro e w16 ⟨rfl, hi, hb, hk⟩; refine ⟨_, rfl, ?_⟩; have n0_ := Aside0.mk (KeepBut.trans (by repeat (first | (with_reducible first | exact HK.out | apply KeepBut.set_ | apply keep_drewN | apply keep_drew | apply keep_alloc) | exact HK.out)) hk (.inl rfl)); have n1_ := Aside0.mk (hb); have n2_ := Aside0.mk (hi); clear HK; clear HB; clear HI0; have HK := n0_; have HB := n1_; have HI0 := n2_; clear n0_ n1_ n2_; (try clear hb); (try clear hb2); (try clear hk); (try clear hi)))
        go_ret
        exact ⟨by first | rfl | (simp [errW_none, errW_some] <;> rfl) | (simp [*, errW_none, errW_some] <;> rfl), by repeat (first | (with_reducible first | exact HI0.out | apply IsS75.alloc | apply IsS75.drewN | apply IsS75.drew | apply IsS75.set_1 | apply IsS75.set_2) | exact HI0.out), by repeat (first | (with_reducible first | exact HB.out | apply below_alloc | apply pw_below_drewN | apply below_drew1 | refine below_set ?_ (IsS75.ge HI0.out)) | exact HB.out), by repeat (first | (with_reducible first | exact HK.out | apply KeepBut.set_ | apply keep_drewN | apply keep_drew | apply keep_alloc) | exact HK.out)⟩

/-! ### spec_l1Pick: function 48 -/
def spec_l1Pick.f (s0_0 : List Int) (s0_1 : Int) (s0_2 : Int) (l1 : List ByteArray) : Option (ByteArray × Int × Int) := (spec_l1Below.f s0_0 s0_1 s0_2 (l1.length : Int)).bind fun bt284 => (if 0 ≤ bt284.1 then (if bt284.1 < (l1.length : Int) then (some (rdOf ByteArray.empty l1 bt284.1, bt284.2.1, bt284.2.2)) else (none)) else (none))
set_option maxHeartbeats 8000000 in
set_option maxRecDepth 100000 in
theorem spec_l1Pick.calls (g : Nat) (s0_0 : List Int) (s0_1 : Int) (s0_2 : Int) (A1 : Option Addr) (c1 : Nat) (l1 : List ByteArray) (r1 : ByteArray) (r2 : Int) (r3 : Int) (w0 w : World) (hI : IsS75 w0 w g s0_0 s0_1 s0_2) (hB : Below w0.heap.size w0 w) (hr1 : Kd.C Kd.string w A1 l1.length l1) (hc1 : l1.length ≤ c1) (hf1 : ∀ ad, A1 = some ad → 0 < l1.length → ad.block ≠ g) (h : spec_l1Pick.f s0_0 s0_1 s0_2 l1 = some (r1, r2, r3)) :
    Calls Tryd.prog 48 #[.pointer (some ⟨g, 0, none⟩), .slice A1 l1.length c1] w fun e w' => e = .returned (.string r1) ∧ IsS75 w0 w' g s0_0 r2 r3 ∧ Below w0.heap.size w0 w' ∧ KeepBut w w' g none := by
  have HR1 := Aside0.mk hr1
  have HC1 := Aside0.mk hc1
  clear hr1 hc1
  have HI0 := Aside0.mk hI
  have HK := Aside0.mk (KeepBut.refl w g none)
  have HL := Aside0.mk hB.size
  clear hI
  have HW0 := Aside0.mk hB.size
  have HB := Aside0.mk hB
  clear hB
  have H : ((spec_l1Below.f s0_0 s0_1 s0_2 (l1.length : Int)).bind fun bt284 => (if 0 ≤ bt284.1 then (if bt284.1 < (l1.length : Int) then (some (rdOf ByteArray.empty l1 bt284.1, bt284.2.1, bt284.2.2)) else (none)) else (none))) = some (r1, r2, r3) := h
  clear h
  replace H := Option.bind_eq_some_iff.mp H
  obtain ⟨⟨t284, t285, t286⟩, A30, H⟩ := H
  replace H : (if 0 ≤ t284 then (if t284 < (l1.length : Int) then (some (rdOf ByteArray.empty l1 t284, t285, t286)) else (none)) else (none)) = some (r1, r2, r3) := H
  have A3 := Aside0.mk A30
  clear A30
  by_cases c4 : 0 ≤ t284
  · rw [if_pos c4] at H
    have c4b0 : decide (0 ≤ t284) = true := decide_eq_true c4
    clear c4
    by_cases c5 : t284 < (l1.length : Int)
    · rw [if_pos c5] at H
      have c5b0 : decide (t284 < (l1.length : Int)) = true := decide_eq_true c5
      clear c5
      simp only [Option.some.injEq, Prod.mk.injEq] at H
      obtain ⟨rfl, rfl, rfl⟩ := H
      go_enter Tryd.func48, Tryd.ntmps48
      go_wp2_with (first | ((with_reducible refine gate_callee (f := 47) rfl ?_); refine goesL_ (some 9) rfl rfl Tryd.func47 (by kernel_rfl) rfl #[.pointer (some ⟨g, 0, none⟩), .int .i64 (l1.length : Int)] rfl (by (try simp only [List.map_toArray, List.map_cons, List.map_nil]); first | done | rfl | (simp only [List.length_drop, List.length_take]; rfl)) ?_; (with_reducible refine (spec_l1Below.calls g s0_0 s0_1 s0_2 (l1.length : Int) t284 t285 t286 w0 _ ?side1 ?side2 A3.out).mono ?_); (case side1 => repeat (first | (with_reducible first | exact HI0.out | apply IsS75.alloc | apply IsS75.drewN | apply IsS75.drew | apply IsS75.set_1 | apply IsS75.set_2) | exact HI0.out)); (case side2 => repeat (first | (with_reducible first | exact HB.out | apply below_alloc | apply pw_below_drewN | apply below_drew1 | refine below_set ?_ (IsS75.ge HI0.out)) | exact HB.out)); rintro e w6 ⟨rfl, hi, hb, hk⟩; refine ⟨_, rfl, ?_⟩; have n0_ := Aside0.mk (KeepBut.trans (by repeat (first | (with_reducible first | exact HK.out | apply KeepBut.set_ | apply keep_drewN | apply keep_drew | apply keep_alloc) | exact HK.out)) hk (.inl rfl)); have n1_ := Aside0.mk (hb); have n2_ := Aside0.mk (hi); clear HK; clear HB; clear HI0; have HK := n0_; have HB := n1_; have HI0 := n2_; clear n0_ n1_ n2_; (try clear hb); (try clear hb2); (try clear hk); (try clear hi); have p287 : 0 ≤ (t284 : Int) := of_decide_eq_true (by first | (with_reducible assumption) | assumption); have q287 : t284 < (l1.length : Int) := of_decide_eq_true (by first | (with_reducible assumption) | assumption); obtain ⟨ad287, e287, hx287_0⟩ := Kd.at_string HR1.out t284 p287 q287; cases e287; replace hx287_0 := keep_cell HK.out hx287_0 (by first | (rw [add_block]; exact hf1 _ rfl (by omega)) | exact hf1 _ rfl (by omega) | exact hf1 ad287 rfl (by omega)); replace p287 := eq_true p287; replace q287 := eq_true q287))
      go_ret
      exact ⟨by first | rfl | (simp [errW_none, errW_some] <;> rfl) | (simp [*, errW_none, errW_some] <;> rfl), by repeat (first | (with_reducible first | exact HI0.out | apply IsS75.alloc | apply IsS75.drewN | apply IsS75.drew | apply IsS75.set_1 | apply IsS75.set_2) | exact HI0.out), by repeat (first | (with_reducible first | exact HB.out | apply below_alloc | apply pw_below_drewN | apply below_drew1 | refine below_set ?_ (IsS75.ge HI0.out)) | exact HB.out), by repeat (first | (with_reducible first | exact HK.out | apply KeepBut.set_ | apply keep_drewN | apply keep_drew | apply keep_alloc) | exact HK.out)⟩
    · rw [if_neg c5] at H
      exact absurd H (by simp)
  · rw [if_neg c4] at H
    exact absurd H (by simp)

/-! ### spec_l2Main: function 46 -/
def spec_l2Main.f (s0_0 : List Int) (s0_1 : Int) (s0_2 : Int) : Option (ByteArray × Int × Int) := (spec_l1Pick.f s0_0 s0_1 s0_2 (([(⟨#[108, 100, 105, 32, 53, 10, 115, 116, 97, 32, 56, 49, 57, 51, 10, 108, 100, 105, 32, 49, 50, 56, 10, 115, 116, 97, 32, 56, 49, 57, 50, 10, 108, 100, 97, 32, 56, 49, 57, 52, 10, 115, 116, 97, 32, 49, 54, 10, 106, 109, 112, 32, 52, 57, 49, 54, 50, 10]⟩ : ByteArray), (⟨#[108, 100, 105, 32, 51, 10, 115, 116, 97, 32, 49, 54, 51, 56, 52, 10, 108, 100, 105, 32, 50, 10, 115, 116, 97, 32, 49, 54, 51, 56, 53, 10, 108, 100, 105, 32, 49, 10, 115, 116, 97, 32, 49, 54, 51, 56, 54, 10, 99, 108, 105, 10, 108, 100, 97, 32, 49, 54, 51, 56, 54, 10, 106, 109, 112, 32, 52, 57, 49, 54, 56, 10]⟩ : ByteArray), (⟨#[108, 100, 105, 32, 50, 10, 115, 116, 97, 32, 56, 49, 57, 53, 10, 105, 110, 120, 10, 116, 120, 97, 10, 115, 116, 97, 32, 56, 49, 57, 54, 10, 115, 116, 97, 32, 56, 49, 57, 55, 10, 108, 100, 97, 32, 56, 49, 57, 54, 10, 115, 116, 97, 32, 48, 10, 106, 109, 112, 32, 52, 57, 49, 53, 55, 10]⟩ : ByteArray), (⟨#[108, 100, 105, 32, 49, 10, 115, 116, 97, 32, 49, 54, 52, 48, 54, 10, 108, 100, 105, 32, 48, 10, 115, 116, 97, 32, 49, 54, 52, 48, 54, 10, 108, 100, 97, 32, 49, 54, 52, 48, 54, 10, 112, 104, 97, 10, 108, 100, 97, 32, 49, 54, 52, 48, 54, 10, 112, 108, 97, 10, 106, 109, 112, 32, 52, 57, 49, 54, 50, 10]⟩ : ByteArray), (⟨#[105, 110, 120, 10, 116, 120, 97, 10, 115, 116, 97, 32, 51, 50, 55, 54, 56, 10, 108, 100, 97, 32, 51, 50, 55, 55, 48, 10, 115, 116, 97, 32, 56, 49, 57, 51, 10, 106, 109, 112, 32, 52, 57, 49, 53, 50, 10]⟩ : ByteArray), (⟨#[108, 100, 105, 32, 49, 50, 56, 10, 115, 116, 97, 32, 56, 49, 57, 50, 10, 108, 100, 105, 32, 55, 10, 115, 116, 97, 32, 49, 54, 51, 56, 53, 10, 108, 100, 105, 32, 49, 10, 115, 116, 97, 32, 49, 54, 51, 56, 54, 10, 99, 108, 105, 10, 106, 115, 114, 32, 52, 57, 51, 48, 48, 10, 106, 109, 112, 32, 52, 57, 49, 54, 56, 10]⟩ : ByteArray), (⟨#[108, 100, 105, 32, 57, 10, 115, 101, 99, 10, 115, 98, 105, 32, 49, 10, 98, 110, 101, 32, 52, 57, 49, 53, 52, 10, 115, 116, 97, 32, 56, 49, 57, 51, 10, 106, 109, 112, 32, 52, 57, 49, 53, 50, 10]⟩ : ByteArray)] : List ByteArray))).bind fun bt291 => (if bt291.1.size + 125 ≤ 9223372036854775807 then (some (bt291.1 ++ (⟨#[97, 116, 32, 49, 52, 56, 10, 105, 110, 120, 10, 116, 120, 97, 10, 115, 116, 97, 32, 56, 49, 57, 55, 10, 114, 116, 115, 10, 97, 116, 32, 49, 50, 56, 10, 112, 104, 97, 10, 108, 100, 97, 32, 56, 49, 57, 52, 10, 97, 100, 105, 32, 49, 10, 115, 116, 97, 32, 56, 49, 57, 51, 10, 112, 108, 97, 10, 114, 116, 105, 10, 97, 116, 32, 49, 54, 48, 10, 115, 116, 97, 32, 49, 54, 51, 56, 55, 10, 108, 100, 97, 32, 49, 54, 51, 56, 54, 10, 115, 116, 97, 32, 49, 55, 10, 108, 100, 105, 32, 50, 10, 115, 116, 97, 32, 49, 54, 51, 56, 53, 10, 114, 116, 105, 10]⟩ : ByteArray), bt291.2.1, bt291.2.2)) else (none))
set_option maxHeartbeats 8000000 in
set_option maxRecDepth 100000 in
theorem spec_l2Main.calls (g : Nat) (s0_0 : List Int) (s0_1 : Int) (s0_2 : Int) (r1 : ByteArray) (r2 : Int) (r3 : Int) (w0 w : World) (hI : IsS75 w0 w g s0_0 s0_1 s0_2) (hB : Below w0.heap.size w0 w) (h : spec_l2Main.f s0_0 s0_1 s0_2 = some (r1, r2, r3)) :
    Calls Tryd.prog 46 #[.pointer (some ⟨g, 0, none⟩)] w fun e w' => e = .returned (.string r1) ∧ IsS75 w0 w' g s0_0 r2 r3 ∧ Below w0.heap.size w0 w' ∧ KeepBut w w' g none := by
  have HI0 := Aside0.mk hI
  have HK := Aside0.mk (KeepBut.refl w g none)
  have HL := Aside0.mk hB.size
  clear hI
  have HW0 := Aside0.mk hB.size
  have HB := Aside0.mk hB
  clear hB
  have H : ((spec_l1Pick.f s0_0 s0_1 s0_2 (([(⟨#[108, 100, 105, 32, 53, 10, 115, 116, 97, 32, 56, 49, 57, 51, 10, 108, 100, 105, 32, 49, 50, 56, 10, 115, 116, 97, 32, 56, 49, 57, 50, 10, 108, 100, 97, 32, 56, 49, 57, 52, 10, 115, 116, 97, 32, 49, 54, 10, 106, 109, 112, 32, 52, 57, 49, 54, 50, 10]⟩ : ByteArray), (⟨#[108, 100, 105, 32, 51, 10, 115, 116, 97, 32, 49, 54, 51, 56, 52, 10, 108, 100, 105, 32, 50, 10, 115, 116, 97, 32, 49, 54, 51, 56, 53, 10, 108, 100, 105, 32, 49, 10, 115, 116, 97, 32, 49, 54, 51, 56, 54, 10, 99, 108, 105, 10, 108, 100, 97, 32, 49, 54, 51, 56, 54, 10, 106, 109, 112, 32, 52, 57, 49, 54, 56, 10]⟩ : ByteArray), (⟨#[108, 100, 105, 32, 50, 10, 115, 116, 97, 32, 56, 49, 57, 53, 10, 105, 110, 120, 10, 116, 120, 97, 10, 115, 116, 97, 32, 56, 49, 57, 54, 10, 115, 116, 97, 32, 56, 49, 57, 55, 10, 108, 100, 97, 32, 56, 49, 57, 54, 10, 115, 116, 97, 32, 48, 10, 106, 109, 112, 32, 52, 57, 49, 53, 55, 10]⟩ : ByteArray), (⟨#[108, 100, 105, 32, 49, 10, 115, 116, 97, 32, 49, 54, 52, 48, 54, 10, 108, 100, 105, 32, 48, 10, 115, 116, 97, 32, 49, 54, 52, 48, 54, 10, 108, 100, 97, 32, 49, 54, 52, 48, 54, 10, 112, 104, 97, 10, 108, 100, 97, 32, 49, 54, 52, 48, 54, 10, 112, 108, 97, 10, 106, 109, 112, 32, 52, 57, 49, 54, 50, 10]⟩ : ByteArray), (⟨#[105, 110, 120, 10, 116, 120, 97, 10, 115, 116, 97, 32, 51, 50, 55, 54, 56, 10, 108, 100, 97, 32, 51, 50, 55, 55, 48, 10, 115, 116, 97, 32, 56, 49, 57, 51, 10, 106, 109, 112, 32, 52, 57, 49, 53, 50, 10]⟩ : ByteArray), (⟨#[108, 100, 105, 32, 49, 50, 56, 10, 115, 116, 97, 32, 56, 49, 57, 50, 10, 108, 100, 105, 32, 55, 10, 115, 116, 97, 32, 49, 54, 51, 56, 53, 10, 108, 100, 105, 32, 49, 10, 115, 116, 97, 32, 49, 54, 51, 56, 54, 10, 99, 108, 105, 10, 106, 115, 114, 32, 52, 57, 51, 48, 48, 10, 106, 109, 112, 32, 52, 57, 49, 54, 56, 10]⟩ : ByteArray), (⟨#[108, 100, 105, 32, 57, 10, 115, 101, 99, 10, 115, 98, 105, 32, 49, 10, 98, 110, 101, 32, 52, 57, 49, 53, 52, 10, 115, 116, 97, 32, 56, 49, 57, 51, 10, 106, 109, 112, 32, 52, 57, 49, 53, 50, 10]⟩ : ByteArray)] : List ByteArray))).bind fun bt291 => (if bt291.1.size + 125 ≤ 9223372036854775807 then (some (bt291.1 ++ (⟨#[97, 116, 32, 49, 52, 56, 10, 105, 110, 120, 10, 116, 120, 97, 10, 115, 116, 97, 32, 56, 49, 57, 55, 10, 114, 116, 115, 10, 97, 116, 32, 49, 50, 56, 10, 112, 104, 97, 10, 108, 100, 97, 32, 56, 49, 57, 52, 10, 97, 100, 105, 32, 49, 10, 115, 116, 97, 32, 56, 49, 57, 51, 10, 112, 108, 97, 10, 114, 116, 105, 10, 97, 116, 32, 49, 54, 48, 10, 115, 116, 97, 32, 49, 54, 51, 56, 55, 10, 108, 100, 97, 32, 49, 54, 51, 56, 54, 10, 115, 116, 97, 32, 49, 55, 10, 108, 100, 105, 32, 50, 10, 115, 116, 97, 32, 49, 54, 51, 56, 53, 10, 114, 116, 105, 10]⟩ : ByteArray), bt291.2.1, bt291.2.2)) else (none))) = some (r1, r2, r3) := h
  clear h
  obtain ⟨y288, hy288⟩ : ∃ y_ : List ByteArray, y_ = (([(⟨#[108, 100, 105, 32, 53, 10, 115, 116, 97, 32, 56, 49, 57, 51, 10, 108, 100, 105, 32, 49, 50, 56, 10, 115, 116, 97, 32, 56, 49, 57, 50, 10, 108, 100, 97, 32, 56, 49, 57, 52, 10, 115, 116, 97, 32, 49, 54, 10, 106, 109, 112, 32, 52, 57, 49, 54, 50, 10]⟩ : ByteArray), (⟨#[108, 100, 105, 32, 51, 10, 115, 116, 97, 32, 49, 54, 51, 56, 52, 10, 108, 100, 105, 32, 50, 10, 115, 116, 97, 32, 49, 54, 51, 56, 53, 10, 108, 100, 105, 32, 49, 10, 115, 116, 97, 32, 49, 54, 51, 56, 54, 10, 99, 108, 105, 10, 108, 100, 97, 32, 49, 54, 51, 56, 54, 10, 106, 109, 112, 32, 52, 57, 49, 54, 56, 10]⟩ : ByteArray), (⟨#[108, 100, 105, 32, 50, 10, 115, 116, 97, 32, 56, 49, 57, 53, 10, 105, 110, 120, 10, 116, 120, 97, 10, 115, 116, 97, 32, 56, 49, 57, 54, 10, 115, 116, 97, 32, 56, 49, 57, 55, 10, 108, 100, 97, 32, 56, 49, 57, 54, 10, 115, 116, 97, 32, 48, 10, 106, 109, 112, 32, 52, 57, 49, 53, 55, 10]⟩ : ByteArray), (⟨#[108, 100, 105, 32, 49, 10, 115, 116, 97, 32, 49, 54, 52, 48, 54, 10, 108, 100, 105, 32, 48, 10, 115, 116, 97, 32, 49, 54, 52, 48, 54, 10, 108, 100, 97, 32, 49, 54, 52, 48, 54, 10, 112, 104, 97, 10, 108, 100, 97, 32, 49, 54, 52, 48, 54, 10, 112, 108, 97, 10, 106, 109, 112, 32, 52, 57, 49, 54, 50, 10]⟩ : ByteArray), (⟨#[105, 110, 120, 10, 116, 120, 97, 10, 115, 116, 97, 32, 51, 50, 55, 54, 56, 10, 108, 100, 97, 32, 51, 50, 55, 55, 48, 10, 115, 116, 97, 32, 56, 49, 57, 51, 10, 106, 109, 112, 32, 52, 57, 49, 53, 50, 10]⟩ : ByteArray), (⟨#[108, 100, 105, 32, 49, 50, 56, 10, 115, 116, 97, 32, 56, 49, 57, 50, 10, 108, 100, 105, 32, 55, 10, 115, 116, 97, 32, 49, 54, 51, 56, 53, 10, 108, 100, 105, 32, 49, 10, 115, 116, 97, 32, 49, 54, 51, 56, 54, 10, 99, 108, 105, 10, 106, 115, 114, 32, 52, 57, 51, 48, 48, 10, 106, 109, 112, 32, 52, 57, 49, 54, 56, 10]⟩ : ByteArray), (⟨#[108, 100, 105, 32, 57, 10, 115, 101, 99, 10, 115, 98, 105, 32, 49, 10, 98, 110, 101, 32, 52, 57, 49, 53, 52, 10, 115, 116, 97, 32, 56, 49, 57, 51, 10, 106, 109, 112, 32, 52, 57, 49, 53, 50, 10]⟩ : ByteArray)] : List ByteArray)) := ⟨_, rfl⟩
  replace H : ((spec_l1Pick.f s0_0 s0_1 s0_2 y288).bind fun bt291 => (if bt291.1.size + 125 ≤ 9223372036854775807 then (some (bt291.1 ++ (⟨#[97, 116, 32, 49, 52, 56, 10, 105, 110, 120, 10, 116, 120, 97, 10, 115, 116, 97, 32, 56, 49, 57, 55, 10, 114, 116, 115, 10, 97, 116, 32, 49, 50, 56, 10, 112, 104, 97, 10, 108, 100, 97, 32, 56, 49, 57, 52, 10, 97, 100, 105, 32, 49, 10, 115, 116, 97, 32, 56, 49, 57, 51, 10, 112, 108, 97, 10, 114, 116, 105, 10, 97, 116, 32, 49, 54, 48, 10, 115, 116, 97, 32, 49, 54, 51, 56, 55, 10, 108, 100, 97, 32, 49, 54, 51, 56, 54, 10, 115, 116, 97, 32, 49, 55, 10, 108, 100, 105, 32, 50, 10, 115, 116, 97, 32, 49, 54, 51, 56, 53, 10, 114, 116, 105, 10]⟩ : ByteArray), bt291.2.1, bt291.2.2)) else (none))) = some (r1, r2, r3) := by first | (rw [hy288]; with_reducible exact H) | (have H2_ := (Option.bind_some _ _).symm.trans H; rw [hy288]; with_reducible exact H2_) | (have H2_ := (Option.bind_some _ _).symm.trans H; with_reducible exact H2_) | with_reducible exact H | (rw [hy288]; exact H) | exact H
  have Ny288 := Aside0.mk hy288
  clear hy288
  replace H := Option.bind_eq_some_iff.mp H
  obtain ⟨⟨t291, t292, t293⟩, A20, H⟩ := H
  replace H : (if t291.size + 125 ≤ 9223372036854775807 then (some (t291 ++ (⟨#[97, 116, 32, 49, 52, 56, 10, 105, 110, 120, 10, 116, 120, 97, 10, 115, 116, 97, 32, 56, 49, 57, 55, 10, 114, 116, 115, 10, 97, 116, 32, 49, 50, 56, 10, 112, 104, 97, 10, 108, 100, 97, 32, 56, 49, 57, 52, 10, 97, 100, 105, 32, 49, 10, 115, 116, 97, 32, 56, 49, 57, 51, 10, 112, 108, 97, 10, 114, 116, 105, 10, 97, 116, 32, 49, 54, 48, 10, 115, 116, 97, 32, 49, 54, 51, 56, 55, 10, 108, 100, 97, 32, 49, 54, 51, 56, 54, 10, 115, 116, 97, 32, 49, 55, 10, 108, 100, 105, 32, 50, 10, 115, 116, 97, 32, 49, 54, 51, 56, 53, 10, 114, 116, 105, 10]⟩ : ByteArray), t292, t293)) else (none)) = some (r1, r2, r3) := H
  have A2 := Aside0.mk A20
  clear A20
  by_cases c3 : t291.size + 125 ≤ 9223372036854775807
  · rw [if_pos c3] at H
    have c3b0 := eq_true c3
    have c3b1 : decide (t291.size + 125 ≤ 9223372036854775807) = true := decide_eq_true c3
    try have c3b2 : (9223372036854775807 < t291.size + 125) = False := eq_false (Nat.not_lt.2 c3)
    simp only [Option.some.injEq, Prod.mk.injEq] at H
    obtain ⟨rfl, rfl, rfl⟩ := H
    go_enter Tryd.func46, Tryd.ntmps46
    go_wp2_with (first | ((with_reducible refine gate_dst (N := 5) rfl ?_); refine Kd.R_lit Kd.string _ 9 ?hg (N := 5) ?hd (xs := ([(⟨#[108, 100, 105, 32, 53, 10, 115, 116, 97, 32, 56, 49, 57, 51, 10, 108, 100, 105, 32, 49, 50, 56, 10, 115, 116, 97, 32, 56, 49, 57, 50, 10, 108, 100, 97, 32, 56, 49, 57, 52, 10, 115, 116, 97, 32, 49, 54, 10, 106, 109, 112, 32, 52, 57, 49, 54, 50, 10]⟩ : ByteArray), (⟨#[108, 100, 105, 32, 51, 10, 115, 116, 97, 32, 49, 54, 51, 56, 52, 10, 108, 100, 105, 32, 50, 10, 115, 116, 97, 32, 49, 54, 51, 56, 53, 10, 108, 100, 105, 32, 49, 10, 115, 116, 97, 32, 49, 54, 51, 56, 54, 10, 99, 108, 105, 10, 108, 100, 97, 32, 49, 54, 51, 56, 54, 10, 106, 109, 112, 32, 52, 57, 49, 54, 56, 10]⟩ : ByteArray), (⟨#[108, 100, 105, 32, 50, 10, 115, 116, 97, 32, 56, 49, 57, 53, 10, 105, 110, 120, 10, 116, 120, 97, 10, 115, 116, 97, 32, 56, 49, 57, 54, 10, 115, 116, 97, 32, 56, 49, 57, 55, 10, 108, 100, 97, 32, 56, 49, 57, 54, 10, 115, 116, 97, 32, 48, 10, 106, 109, 112, 32, 52, 57, 49, 53, 55, 10]⟩ : ByteArray), (⟨#[108, 100, 105, 32, 49, 10, 115, 116, 97, 32, 49, 54, 52, 48, 54, 10, 108, 100, 105, 32, 48, 10, 115, 116, 97, 32, 49, 54, 52, 48, 54, 10, 108, 100, 97, 32, 49, 54, 52, 48, 54, 10, 112, 104, 97, 10, 108, 100, 97, 32, 49, 54, 52, 48, 54, 10, 112, 108, 97, 10, 106, 109, 112, 32, 52, 57, 49, 54, 50, 10]⟩ : ByteArray), (⟨#[105, 110, 120, 10, 116, 120, 97, 10, 115, 116, 97, 32, 51, 50, 55, 54, 56, 10, 108, 100, 97, 32, 51, 50, 55, 55, 48, 10, 115, 116, 97, 32, 56, 49, 57, 51, 10, 106, 109, 112, 32, 52, 57, 49, 53, 50, 10]⟩ : ByteArray), (⟨#[108, 100, 105, 32, 49, 50, 56, 10, 115, 116, 97, 32, 56, 49, 57, 50, 10, 108, 100, 105, 32, 55, 10, 115, 116, 97, 32, 49, 54, 51, 56, 53, 10, 108, 100, 105, 32, 49, 10, 115, 116, 97, 32, 49, 54, 51, 56, 54, 10, 99, 108, 105, 10, 106, 115, 114, 32, 52, 57, 51, 48, 48, 10, 106, 109, 112, 32, 52, 57, 49, 54, 56, 10]⟩ : ByteArray), (⟨#[108, 100, 105, 32, 57, 10, 115, 101, 99, 10, 115, 98, 105, 32, 49, 10, 98, 110, 101, 32, 52, 57, 49, 53, 52, 10, 115, 116, 97, 32, 56, 49, 57, 51, 10, 106, 109, 112, 32, 52, 57, 49, 53, 50, 10]⟩ : ByteArray)] : List ByteArray)) (inner := [.string (⟨#[108, 100, 105, 32, 53, 10, 115, 116, 97, 32, 56, 49, 57, 51, 10, 108, 100, 105, 32, 49, 50, 56, 10, 115, 116, 97, 32, 56, 49, 57, 50, 10, 108, 100, 97, 32, 56, 49, 57, 52, 10, 115, 116, 97, 32, 49, 54, 10, 106, 109, 112, 32, 52, 57, 49, 54, 50, 10]⟩ : ByteArray), .string (⟨#[108, 100, 105, 32, 51, 10, 115, 116, 97, 32, 49, 54, 51, 56, 52, 10, 108, 100, 105, 32, 50, 10, 115, 116, 97, 32, 49, 54, 51, 56, 53, 10, 108, 100, 105, 32, 49, 10, 115, 116, 97, 32, 49, 54, 51, 56, 54, 10, 99, 108, 105, 10, 108, 100, 97, 32, 49, 54, 51, 56, 54, 10, 106, 109, 112, 32, 52, 57, 49, 54, 56, 10]⟩ : ByteArray), .string (⟨#[108, 100, 105, 32, 50, 10, 115, 116, 97, 32, 56, 49, 57, 53, 10, 105, 110, 120, 10, 116, 120, 97, 10, 115, 116, 97, 32, 56, 49, 57, 54, 10, 115, 116, 97, 32, 56, 49, 57, 55, 10, 108, 100, 97, 32, 56, 49, 57, 54, 10, 115, 116, 97, 32, 48, 10, 106, 109, 112, 32, 52, 57, 49, 53, 55, 10]⟩ : ByteArray), .string (⟨#[108, 100, 105, 32, 49, 10, 115, 116, 97, 32, 49, 54, 52, 48, 54, 10, 108, 100, 105, 32, 48, 10, 115, 116, 97, 32, 49, 54, 52, 48, 54, 10, 108, 100, 97, 32, 49, 54, 52, 48, 54, 10, 112, 104, 97, 10, 108, 100, 97, 32, 49, 54, 52, 48, 54, 10, 112, 108, 97, 10, 106, 109, 112, 32, 52, 57, 49, 54, 50, 10]⟩ : ByteArray), .string (⟨#[105, 110, 120, 10, 116, 120, 97, 10, 115, 116, 97, 32, 51, 50, 55, 54, 56, 10, 108, 100, 97, 32, 51, 50, 55, 55, 48, 10, 115, 116, 97, 32, 56, 49, 57, 51, 10, 106, 109, 112, 32, 52, 57, 49, 53, 50, 10]⟩ : ByteArray), .string (⟨#[108, 100, 105, 32, 49, 50, 56, 10, 115, 116, 97, 32, 56, 49, 57, 50, 10, 108, 100, 105, 32, 55, 10, 115, 116, 97, 32, 49, 54, 51, 56, 53, 10, 108, 100, 105, 32, 49, 10, 115, 116, 97, 32, 49, 54, 51, 56, 54, 10, 99, 108, 105, 10, 106, 115, 114, 32, 52, 57, 51, 48, 48, 10, 106, 109, 112, 32, 52, 57, 49, 54, 56, 10]⟩ : ByteArray), .string (⟨#[108, 100, 105, 32, 57, 10, 115, 101, 99, 10, 115, 98, 105, 32, 49, 10, 98, 110, 101, 32, 52, 57, 49, 53, 52, 10, 115, 116, 97, 32, 56, 49, 57, 51, 10, 106, 109, 112, 32, 52, 57, 49, 53, 50, 10]⟩ : ByteArray)]) (ok := fun _ => True) (okp := fun _ => True) ?hr ?hp (fun _ hk => hk) trivial (Below.refl _ _) (Nat.le_refl _) (by simp) ?_; (case hd => rfl); (case hg => rfl); (case hr => first | (go_simp; done) | (go_simp; rfl)); (case hp => exact (Reps.one (show Kd.M Kd.string _ _ _ (⟨#[108, 100, 105, 32, 53, 10, 115, 116, 97, 32, 56, 49, 57, 51, 10, 108, 100, 105, 32, 49, 50, 56, 10, 115, 116, 97, 32, 56, 49, 57, 50, 10, 108, 100, 97, 32, 56, 49, 57, 52, 10, 115, 116, 97, 32, 49, 54, 10, 106, 109, 112, 32, 52, 57, 49, 54, 50, 10]⟩ : ByteArray) [.string (⟨#[108, 100, 105, 32, 53, 10, 115, 116, 97, 32, 56, 49, 57, 51, 10, 108, 100, 105, 32, 49, 50, 56, 10, 115, 116, 97, 32, 56, 49, 57, 50, 10, 108, 100, 97, 32, 56, 49, 57, 52, 10, 115, 116, 97, 32, 49, 54, 10, 106, 109, 112, 32, 52, 57, 49, 54, 50, 10]⟩ : ByteArray)] from rfl) (Reps.one (show Kd.M Kd.string _ _ _ (⟨#[108, 100, 105, 32, 51, 10, 115, 116, 97, 32, 49, 54, 51, 56, 52, 10, 108, 100, 105, 32, 50, 10, 115, 116, 97, 32, 49, 54, 51, 56, 53, 10, 108, 100, 105, 32, 49, 10, 115, 116, 97, 32, 49, 54, 51, 56, 54, 10, 99, 108, 105, 10, 108, 100, 97, 32, 49, 54, 51, 56, 54, 10, 106, 109, 112, 32, 52, 57, 49, 54, 56, 10]⟩ : ByteArray) [.string (⟨#[108, 100, 105, 32, 51, 10, 115, 116, 97, 32, 49, 54, 51, 56, 52, 10, 108, 100, 105, 32, 50, 10, 115, 116, 97, 32, 49, 54, 51, 56, 53, 10, 108, 100, 105, 32, 49, 10, 115, 116, 97, 32, 49, 54, 51, 56, 54, 10, 99, 108, 105, 10, 108, 100, 97, 32, 49, 54, 51, 56, 54, 10, 106, 109, 112, 32, 52, 57, 49, 54, 56, 10]⟩ : ByteArray)] from rfl) (Reps.one (show Kd.M Kd.string _ _ _ (⟨#[108, 100, 105, 32, 50, 10, 115, 116, 97, 32, 56, 49, 57, 53, 10, 105, 110, 120, 10, 116, 120, 97, 10, 115, 116, 97, 32, 56, 49, 57, 54, 10, 115, 116, 97, 32, 56, 49, 57, 55, 10, 108, 100, 97, 32, 56, 49, 57, 54, 10, 115, 116, 97, 32, 48, 10, 106, 109, 112, 32, 52, 57, 49, 53, 55, 10]⟩ : ByteArray) [.string (⟨#[108, 100, 105, 32, 50, 10, 115, 116, 97, 32, 56, 49, 57, 53, 10, 105, 110, 120, 10, 116, 120, 97, 10, 115, 116, 97, 32, 56, 49, 57, 54, 10, 115, 116, 97, 32, 56, 49, 57, 55, 10, 108, 100, 97, 32, 56, 49, 57, 54, 10, 115, 116, 97, 32, 48, 10, 106, 109, 112, 32, 52, 57, 49, 53, 55, 10]⟩ : ByteArray)] from rfl) (Reps.one (show Kd.M Kd.string _ _ _ (⟨#[108, 100, 105, 32, 49, 10, 115, 116, 97, 32, 49, 54, 52, 48, 54, 10, 108, 100, 105, 32, 48, 10, 115, 116, 97, 32, 49, 54, 52, 48, 54, 10, 108, 100, 97, 32, 49, 54, 52, 48, 54, 10, 112, 104, 97, 10, 108, 100, 97, 32, 49, 54, 52, 48, 54, 10, 112, 108, 97, 10, 106, 109, 112, 32, 52, 57, 49, 54, 50, 10]⟩ : ByteArray) [.string (⟨#[108, 100, 105, 32, 49, 10, 115, 116, 97, 32, 49, 54, 52, 48, 54, 10, 108, 100, 105, 32, 48, 10, 115, 116, 97, 32, 49, 54, 52, 48, 54, 10, 108, 100, 97, 32, 49, 54, 52, 48, 54, 10, 112, 104, 97, 10, 108, 100, 97, 32, 49, 54, 52, 48, 54, 10, 112, 108, 97, 10, 106, 109, 112, 32, 52, 57, 49, 54, 50, 10]⟩ : ByteArray)] from rfl) (Reps.one (show Kd.M Kd.string _ _ _ (⟨#[105, 110, 120, 10, 116, 120, 97, 10, 115, 116, 97, 32, 51, 50, 55, 54, 56, 10, 108, 100, 97, 32, 51, 50, 55, 55, 48, 10, 115, 116, 97, 32, 56, 49, 57, 51, 10, 106, 109, 112, 32, 52, 57, 49, 53, 50, 10]⟩ : ByteArray) [.string (⟨#[105, 110, 120, 10, 116, 120, 97, 10, 115, 116, 97, 32, 51, 50, 55, 54, 56, 10, 108, 100, 97, 32, 51, 50, 55, 55, 48, 10, 115, 116, 97, 32, 56, 49, 57, 51, 10, 106, 109, 112, 32, 52, 57, 49, 53, 50, 10]⟩ : ByteArray)] from rfl) (Reps.one (show Kd.M Kd.string _ _ _ (⟨#[108, 100, 105, 32, 49, 50, 56, 10, 115, 116, 97, 32, 56, 49, 57, 50, 10, 108, 100, 105, 32, 55, 10, 115, 116, 97, 32, 49, 54, 51, 56, 53, 10, 108, 100, 105, 32, 49, 10, 115, 116, 97, 32, 49, 54, 51, 56, 54, 10, 99, 108, 105, 10, 106, 115, 114, 32, 52, 57, 51, 48, 48, 10, 106, 109, 112, 32, 52, 57, 49, 54, 56, 10]⟩ : ByteArray) [.string (⟨#[108, 100, 105, 32, 49, 50, 56, 10, 115, 116, 97, 32, 56, 49, 57, 50, 10, 108, 100, 105, 32, 55, 10, 115, 116, 97, 32, 49, 54, 51, 56, 53, 10, 108, 100, 105, 32, 49, 10, 115, 116, 97, 32, 49, 54, 51, 56, 54, 10, 99, 108, 105, 10, 106, 115, 114, 32, 52, 57, 51, 48, 48, 10, 106, 109, 112, 32, 52, 57, 49, 54, 56, 10]⟩ : ByteArray)] from rfl) (Reps.one (show Kd.M Kd.string _ _ _ (⟨#[108, 100, 105, 32, 57, 10, 115, 101, 99, 10, 115, 98, 105, 32, 49, 10, 98, 110, 101, 32, 52, 57, 49, 53, 52, 10, 115, 116, 97, 32, 56, 49, 57, 51, 10, 106, 109, 112, 32, 52, 57, 49, 53, 50, 10]⟩ : ByteArray) [.string (⟨#[108, 100, 105, 32, 57, 10, 115, 101, 99, 10, 115, 98, 105, 32, 49, 10, 98, 110, 101, 32, 52, 57, 49, 53, 52, 10, 115, 116, 97, 32, 56, 49, 57, 51, 10, 106, 109, 112, 32, 52, 57, 49, 53, 50, 10]⟩ : ByteArray)] from rfl) (Reps.none _ _))))))))); intro v289 w4 ho5 hb hg_ hnew_; clear hg_ hnew_; (first | rw [← Ny288.out] at ho5 | (simp only [Int.reduceToNat] at ho5; rw [← Ny288.out] at ho5)); have n0_ := Aside0.mk (Kd.R_lower ho5 (keep_size (w := w) (g := g) (row := none) (by repeat (first | (with_reducible first | exact HK.out | apply KeepBut.set_ | apply keep_drewN | apply keep_drew | apply keep_alloc) | exact HK.out)))); have n1_ := Aside0.mk (IsS75.below (by repeat (first | (with_reducible first | exact HI0.out | apply IsS75.alloc | apply IsS75.drewN | apply IsS75.drew | apply IsS75.set_1 | apply IsS75.set_2) | exact HI0.out)) hb); have n2_ := Aside0.mk (KeepBut.trans (by repeat (first | (with_reducible first | exact HK.out | apply KeepBut.set_ | apply keep_drewN | apply keep_drew | apply keep_alloc) | exact HK.out)) (KeepBut.of_below hb g none) (.inl rfl)); have n3_ := Aside0.mk (below_step (by repeat (first | (with_reducible first | exact HB.out | apply below_alloc | apply pw_below_drewN | apply below_drew1 | refine below_set ?_ (IsS75.ge HI0.out)) | exact HB.out)) hb); clear HI0; clear HK; clear HB; have HO290 := n0_; have HI0 := n1_; have HK := n2_; have HB := n3_; clear n0_ n1_ n2_ n3_; clear hb ho5; obtain ⟨Ao6, co6, eo6⟩ := Kd.R_slice HO290.out; subst eo6) | ((with_reducible refine gate_callee (f := 48) rfl ?_); refine goesL_ (some 6) rfl rfl Tryd.func48 (by kernel_rfl) rfl #[.pointer (some ⟨g, 0, none⟩), .slice Ao6 y288.length co6] rfl (by (try simp only [List.map_toArray, List.map_cons, List.map_nil]); first | done | rfl | (simp only [List.length_drop, List.length_take]; rfl)) ?_; (with_reducible refine (spec_l1Pick.calls g s0_0 s0_1 s0_2 _ _ y288 t291 t292 t293 w0 _ ?side1 ?side2 ?side3 ?side4 ?side5 A2.out).mono ?_); (case side1 => repeat (first | (with_reducible first | exact HI0.out | apply IsS75.alloc | apply IsS75.drewN | apply IsS75.drew | apply IsS75.set_1 | apply IsS75.set_2) | exact HI0.out)); (case side2 => repeat (first | (with_reducible first | exact HB.out | apply below_alloc | apply pw_below_drewN | apply below_drew1 | refine below_set ?_ (IsS75.ge HI0.out)) | exact HB.out)); (case side3 => repeat (first | exact (Kd.R_reads' HO290.out).2.2 | (with_reducible refine Kd.C_alloc ?_ _) | (with_reducible refine Kd.C_drewN ?_ _) | (with_reducible refine Kd.C_drew ?_))); (case side4 => exact (Kd.R_reads' HO290.out).2.1); (case side5 => exact far_slice (IsS75.own_ne HI0.out HO290.out (by decide))); rintro e w7 ⟨rfl, hi, hb, hk⟩; refine ⟨_, rfl, ?_⟩; have n0_ := Aside0.mk (Kd.R_mono (Kd.R_keep (IsS75.apart (show IsS75 w0 _ g s0_0 s0_1 s0_2 from by repeat (first | (with_reducible first | exact HI0.out | apply IsS75.alloc | apply IsS75.drewN | apply IsS75.drew | apply IsS75.set_1 | apply IsS75.set_2) | exact HI0.out)) (by (with_reducible repeat (first | apply Kd.R_alloc | apply Kd.R_drewN | apply Kd.R_drew)); exact HO290.out) (by decide)) hk (fun _ h => h.2)) (fun _ h => h.1)); have n1_ := Aside0.mk (KeepBut.trans (by repeat (first | (with_reducible first | exact HK.out | apply KeepBut.set_ | apply keep_drewN | apply keep_drew | apply keep_alloc) | exact HK.out)) hk (.inl rfl)); have n2_ := Aside0.mk (hb); have n3_ := Aside0.mk (hi); clear HO290; clear HK; clear HB; clear HI0; have HO290 := n0_; have HK := n1_; have HB := n2_; have HI0 := n3_; clear n0_ n1_ n2_ n3_; (try clear hb); (try clear hb2); (try clear hk); (try clear hi)))
    go_ret
    exact ⟨by first | rfl | (simp [errW_none, errW_some] <;> rfl) | (simp [*, errW_none, errW_some] <;> rfl), by repeat (first | (with_reducible first | exact HI0.out | apply IsS75.alloc | apply IsS75.drewN | apply IsS75.drew | apply IsS75.set_1 | apply IsS75.set_2) | exact HI0.out), by repeat (first | (with_reducible first | exact HB.out | apply below_alloc | apply pw_below_drewN | apply below_drew1 | refine below_set ?_ (IsS75.ge HI0.out)) | exact HB.out), by repeat (first | (with_reducible first | exact HK.out | apply KeepBut.set_ | apply keep_drewN | apply keep_drew | apply keep_alloc) | exact HK.out)⟩
  · rw [if_neg c3] at H
    exact absurd H (by simp)

/-! ### spec_l1Once: function 49 -/
def spec_l1Once.f (s0_0 : List Int) (s0_1 : Int) (s0_2 : Int) (a1 : Int) : Option (Bool × Int × Int) := (spec_l1Below.f s0_0 s0_1 s0_2 a1).bind fun bt294 => (some ((bt294.1 == 0), bt294.2.1, bt294.2.2))
set_option maxHeartbeats 8000000 in
set_option maxRecDepth 100000 in
theorem spec_l1Once.calls (g : Nat) (s0_0 : List Int) (s0_1 : Int) (s0_2 : Int) (a1 : Int) (r1 : Bool) (r2 : Int) (r3 : Int) (w0 w : World) (hI : IsS75 w0 w g s0_0 s0_1 s0_2) (hB : Below w0.heap.size w0 w) (h : spec_l1Once.f s0_0 s0_1 s0_2 a1 = some (r1, r2, r3)) :
    Calls Tryd.prog 49 #[.pointer (some ⟨g, 0, none⟩), .int .i64 a1] w fun e w' => e = .returned (.bool r1) ∧ IsS75 w0 w' g s0_0 r2 r3 ∧ Below w0.heap.size w0 w' ∧ KeepBut w w' g none := by
  have HI0 := Aside0.mk hI
  have HK := Aside0.mk (KeepBut.refl w g none)
  have HL := Aside0.mk hB.size
  clear hI
  have HW0 := Aside0.mk hB.size
  have HB := Aside0.mk hB
  clear hB
  have H : ((spec_l1Below.f s0_0 s0_1 s0_2 a1).bind fun bt294 => (some ((bt294.1 == 0), bt294.2.1, bt294.2.2))) = some (r1, r2, r3) := h
  clear h
  replace H := Option.bind_eq_some_iff.mp H
  obtain ⟨⟨t294, t295, t296⟩, A30, H⟩ := H
  replace H : (some ((t294 == 0), t295, t296)) = some (r1, r2, r3) := H
  have A3 := Aside0.mk A30
  clear A30
  simp only [Option.some.injEq, Prod.mk.injEq] at H
  obtain ⟨rfl, rfl, rfl⟩ := H
  go_enter Tryd.func49, Tryd.ntmps49
  go_wp2_with (first | ((with_reducible refine gate_callee (f := 47) rfl ?_); refine goesL_ (some 7) rfl rfl Tryd.func47 (by kernel_rfl) rfl #[.pointer (some ⟨g, 0, none⟩), .int .i64 a1] rfl (by (try simp only [List.map_toArray, List.map_cons, List.map_nil]); first | done | rfl | (simp only [List.length_drop, List.length_take]; rfl)) ?_; (with_reducible refine (spec_l1Below.calls g s0_0 s0_1 s0_2 a1 t294 t295 t296 w0 _ ?side1 ?side2 A3.out).mono ?_); (case side1 => repeat (first | (with_reducible first | exact HI0.out | apply IsS75.alloc | apply IsS75.drewN | apply IsS75.drew | apply IsS75.set_1 | apply IsS75.set_2) | exact HI0.out)); (case side2 => repeat (first | (with_reducible first | exact HB.out | apply below_alloc | apply pw_below_drewN | apply below_drew1 | refine below_set ?_ (IsS75.ge HI0.out)) | exact HB.out)); rintro e w4 ⟨rfl, hi, hb, hk⟩; refine ⟨_, rfl, ?_⟩; have n0_ := Aside0.mk (KeepBut.trans (by repeat (first | (with_reducible first | exact HK.out | apply KeepBut.set_ | apply keep_drewN | apply keep_drew | apply keep_alloc) | exact HK.out)) hk (.inl rfl)); have n1_ := Aside0.mk (hb); have n2_ := Aside0.mk (hi); clear HK; clear HB; clear HI0; have HK := n0_; have HB := n1_; have HI0 := n2_; clear n0_ n1_ n2_; (try clear hb); (try clear hb2); (try clear hk); (try clear hi)))
  go_ret
  exact ⟨by first | rfl | (simp [errW_none, errW_some] <;> rfl) | (simp [*, errW_none, errW_some] <;> rfl), by repeat (first | (with_reducible first | exact HI0.out | apply IsS75.alloc | apply IsS75.drewN | apply IsS75.drew | apply IsS75.set_1 | apply IsS75.set_2) | exact HI0.out), by repeat (first | (with_reducible first | exact HB.out | apply below_alloc | apply pw_below_drewN | apply below_drew1 | refine below_set ?_ (IsS75.ge HI0.out)) | exact HB.out), by repeat (first | (with_reducible first | exact HK.out | apply KeepBut.set_ | apply keep_drewN | apply keep_drew | apply keep_alloc) | exact HK.out)⟩

end Go.Proofs.YtbggkcnglmiheaaDoor.MFnAssembled
