/- Walks of functions that the law FnOps reaches: each comes to just what its Lean function says. (Begun as the texts that print.sh wrote for this claim; some of them, and those that it does not write, are mine.) No condition. -/
import Derived.Test.YtcdfkemhigmnlaaMFnOpsx1
namespace Go.Proofs.Ytcdfkemhigmnlaa.MFnOps
open Go.RowKit Go.Proofs.YtcdfkemhigmnlaaW.PrintWords Go.Proofs.YtcdfkemhigmnlaaW.PrintLast Go.Proofs.YtcdfkemhigmnlaaW.PrintMore
attribute [local go_sem] max2_int min2_int max_two min_two max_three min_three max_four min_four   -- for this text's walks alone
set_option linter.unusedVariables false
set_option linter.unusedSimpArgs false

/-! ### laws_FnOps: function 14 -/
mutual
def laws_FnOps.j0 : Nat → Int → ByteArray → Int → Bool → Option (Bool)
  | 0, _, _, _, _ => none
  | k + 1, x3, x4, x5, x45 => if x45 = true then (some false) else (if x5 ≥ 0 then ((impl_OpName.f x5).bind fun t219 => (if t219.toList = x4.toList then ((impl_OpName.f x3).bind fun t220 => (if t220.toList = ([] : List UInt8) then (laws_FnOps.j1 k x3 false) else ((impl_OpName.f x3).bind fun t221 => ((impl_OpOf.f k t221).bind fun t222 => (laws_FnOps.j1 k x3 (t222 != x3)))))) else (laws_FnOps.j1 k x3 true))) else ((impl_OpName.f x3).bind fun t223 => (if t223.toList = ([] : List UInt8) then (laws_FnOps.j1 k x3 false) else ((impl_OpName.f x3).bind fun t224 => ((impl_OpOf.f k t224).bind fun t225 => (laws_FnOps.j1 k x3 (t225 != x3)))))))
def laws_FnOps.j1 : Nat → Int → Bool → Option (Bool)
  | 0, _, _ => none
  | k + 1, x3, x65 => if x65 = true then (some false) else ((impl_OpLen.f k x3).bind fun t226 => (if t226 ≥ 1 then ((impl_OpLen.f k x3).bind fun t227 => (if t227 ≤ 3 then ((impl_OpCycles.f k x3).bind fun t228 => (if t228 ≥ 2 then ((impl_OpCycles.f k x3).bind fun t229 => (if t229 ≤ 6 then ((impl_OpAccess.f k x3).bind fun t230 => (if t230 = 0 then (some true) else ((impl_OpLen.f k x3).bind fun t231 => (some (t231 == 3))))) else (some false))) else (some false))) else (some false))) else (some false)))
end
def laws_FnOps.f (k : Nat) (l0 : List Int) : Option (Bool) := (laws_big.f l0).bind fun t206 => (if t206 = true then (some true) else ((spec_DrawOpName.f k l0).bind fun t207 => ((spec_DrawOpOf.f k l0).bind fun t208 => ((impl_OpOf.f k t208).bind fun t209 => ((impl_OpName.f t207).bind fun t210 => ((spec_OpName.f t207).bind fun t211 => (if t210.toList = t211.toList then ((spec_OpOf.f k t208).bind fun t212 => (if t209 = t212 then ((impl_OpLen.f k t207).bind fun t213 => ((spec_OpLen.f t207).bind fun t214 => (if t213 = t214 then ((impl_OpCycles.f k t207).bind fun t215 => ((spec_OpCycles.f t207).bind fun t216 => (if t215 = t216 then ((impl_OpAccess.f k t207).bind fun t217 => ((spec_OpAccess.f k t207).bind fun t218 => (laws_FnOps.j0 k t207 t208 t209 (t217 != t218)))) else (laws_FnOps.j0 k t207 t208 t209 true)))) else (laws_FnOps.j0 k t207 t208 t209 true)))) else (laws_FnOps.j0 k t207 t208 t209 true))) else (laws_FnOps.j0 k t207 t208 t209 true))))))))
theorem laws_FnOps.mono_l : ∀ k, (∀ y0 y1 y2 y3, LeO (laws_FnOps.j0 k y0 y1 y2 y3) (laws_FnOps.j0 (k + 1) y0 y1 y2 y3)) ∧ (∀ y0 y1, LeO (laws_FnOps.j1 k y0 y1) (laws_FnOps.j1 (k + 1) y0 y1))
  | 0 => ⟨fun _ _ _ _ r h => by simp [laws_FnOps.j0] at h, fun _ _ r h => by simp [laws_FnOps.j1] at h⟩
  | k + 1 => by
    obtain ⟨ih0, ih1⟩ := laws_FnOps.mono_l k
    refine ⟨?_, ?_⟩
    · intro y0 y1 y2 y3
      unfold laws_FnOps.j0
      repeat' first
      | (with_reducible exact ih0 _ _ _ _)
      | (with_reducible exact ih1 _ _)
      | (with_reducible exact impl_OpAccess.mono _ _)
      | (with_reducible exact impl_OpCycles.mono _ _)
      | (with_reducible exact impl_OpLen.mono _ _)
      | (with_reducible exact impl_OpOf.mono _ _)
      | (with_reducible exact spec_DrawOpName.mono _ _)
      | (with_reducible exact spec_DrawOpOf.mono _ _)
      | (with_reducible exact spec_OpAccess.mono _ _)
      | (with_reducible exact spec_OpOf.mono _ _)
      | (with_reducible exact LeO.refl _)
      | (with_reducible exact LeO.none _)
      | (with_reducible refine LeO.ite ?_ ?_)
      | (with_reducible refine LeO.bind ?_ (fun _ => ?_))
      | exact ih0 _ _ _ _
      | exact ih1 _ _
      | exact impl_OpAccess.mono _ _
      | exact impl_OpCycles.mono _ _
      | exact impl_OpLen.mono _ _
      | exact impl_OpOf.mono _ _
      | exact spec_DrawOpName.mono _ _
      | exact spec_DrawOpOf.mono _ _
      | exact spec_OpAccess.mono _ _
      | exact spec_OpOf.mono _ _
      | exact LeO.none _
      | refine LeO.ite ?_ ?_
      | refine LeO.bind ?_ (fun _ => ?_)
    · intro y0 y1
      unfold laws_FnOps.j1
      repeat' first
      | (with_reducible exact ih0 _ _ _ _)
      | (with_reducible exact ih1 _ _)
      | (with_reducible exact impl_OpAccess.mono _ _)
      | (with_reducible exact impl_OpCycles.mono _ _)
      | (with_reducible exact impl_OpLen.mono _ _)
      | (with_reducible exact impl_OpOf.mono _ _)
      | (with_reducible exact spec_DrawOpName.mono _ _)
      | (with_reducible exact spec_DrawOpOf.mono _ _)
      | (with_reducible exact spec_OpAccess.mono _ _)
      | (with_reducible exact spec_OpOf.mono _ _)
      | (with_reducible exact LeO.refl _)
      | (with_reducible exact LeO.none _)
      | (with_reducible refine LeO.ite ?_ ?_)
      | (with_reducible refine LeO.bind ?_ (fun _ => ?_))
      | exact ih0 _ _ _ _
      | exact ih1 _ _
      | exact impl_OpAccess.mono _ _
      | exact impl_OpCycles.mono _ _
      | exact impl_OpLen.mono _ _
      | exact impl_OpOf.mono _ _
      | exact spec_DrawOpName.mono _ _
      | exact spec_DrawOpOf.mono _ _
      | exact spec_OpAccess.mono _ _
      | exact spec_OpOf.mono _ _
      | exact LeO.none _
      | refine LeO.ite ?_ ?_
      | refine LeO.bind ?_ (fun _ => ?_)
theorem laws_FnOps.mono : ∀ a0 k, LeO (laws_FnOps.f k a0) (laws_FnOps.f (k + 1) a0) := by
  intro a0 k
  obtain ⟨ih0, ih1⟩ := laws_FnOps.mono_l k
  unfold laws_FnOps.f
  repeat' first
      | (with_reducible exact ih0 _ _ _ _)
      | (with_reducible exact ih1 _ _)
      | (with_reducible exact impl_OpAccess.mono _ _)
      | (with_reducible exact impl_OpCycles.mono _ _)
      | (with_reducible exact impl_OpLen.mono _ _)
      | (with_reducible exact impl_OpOf.mono _ _)
      | (with_reducible exact spec_DrawOpName.mono _ _)
      | (with_reducible exact spec_DrawOpOf.mono _ _)
      | (with_reducible exact spec_OpAccess.mono _ _)
      | (with_reducible exact spec_OpOf.mono _ _)
      | (with_reducible exact LeO.refl _)
      | (with_reducible exact LeO.none _)
      | (with_reducible refine LeO.ite ?_ ?_)
      | (with_reducible refine LeO.bind ?_ (fun _ => ?_))
      | exact ih0 _ _ _ _
      | exact ih1 _ _
      | exact impl_OpAccess.mono _ _
      | exact impl_OpCycles.mono _ _
      | exact impl_OpLen.mono _ _
      | exact impl_OpOf.mono _ _
      | exact spec_DrawOpName.mono _ _
      | exact spec_DrawOpOf.mono _ _
      | exact spec_OpAccess.mono _ _
      | exact spec_OpOf.mono _ _
      | exact LeO.none _
      | refine LeO.ite ?_ ?_
      | refine LeO.bind ?_ (fun _ => ?_)
set_option maxHeartbeats 8000000 in
set_option maxRecDepth 100000 in
theorem laws_FnOps.calls (k : Nat) (A0 : Option Addr) (c0 : Nat) (l0 : List Int) (r : Bool) (w : World) (hr0 : Kd.C (Kd.int .u8) w A0 l0.length l0) (hc0 : l0.length ≤ c0) (h : laws_FnOps.f k l0 = some r) (hrt : r = true) :
    Calls Try.prog 14 #[.slice A0 l0.length c0] w fun e w' => e = .returned (.bool r) ∧ Below w.heap.size w w' := by
  have HR0 := Aside0.mk hr0
  have HC0 := Aside0.mk hc0
  clear hr0 hc0
  have HB := Aside0.mk (Below.refl w.heap.size w)
  have H : ((laws_big.f l0).bind fun t206 => (if t206 = true then (some true) else ((spec_DrawOpName.f k l0).bind fun t207 => ((spec_DrawOpOf.f k l0).bind fun t208 => ((impl_OpOf.f k t208).bind fun t209 => ((impl_OpName.f t207).bind fun t210 => ((spec_OpName.f t207).bind fun t211 => (if t210.toList = t211.toList then ((spec_OpOf.f k t208).bind fun t212 => (if t209 = t212 then ((impl_OpLen.f k t207).bind fun t213 => ((spec_OpLen.f t207).bind fun t214 => (if t213 = t214 then ((impl_OpCycles.f k t207).bind fun t215 => ((spec_OpCycles.f t207).bind fun t216 => (if t215 = t216 then ((impl_OpAccess.f k t207).bind fun t217 => ((spec_OpAccess.f k t207).bind fun t218 => (laws_FnOps.j0 k t207 t208 t209 (t217 != t218)))) else (laws_FnOps.j0 k t207 t208 t209 true)))) else (laws_FnOps.j0 k t207 t208 t209 true)))) else (laws_FnOps.j0 k t207 t208 t209 true))) else (laws_FnOps.j0 k t207 t208 t209 true))))))))) = some r := h
  clear h
  replace H := Option.bind_eq_some_iff.mp H
  obtain ⟨t206, A20, H⟩ := H
  replace H : (if t206 = true then (some true) else ((spec_DrawOpName.f k l0).bind fun t207 => ((spec_DrawOpOf.f k l0).bind fun t208 => ((impl_OpOf.f k t208).bind fun t209 => ((impl_OpName.f t207).bind fun t210 => ((spec_OpName.f t207).bind fun t211 => (if t210.toList = t211.toList then ((spec_OpOf.f k t208).bind fun t212 => (if t209 = t212 then ((impl_OpLen.f k t207).bind fun t213 => ((spec_OpLen.f t207).bind fun t214 => (if t213 = t214 then ((impl_OpCycles.f k t207).bind fun t215 => ((spec_OpCycles.f t207).bind fun t216 => (if t215 = t216 then ((impl_OpAccess.f k t207).bind fun t217 => ((spec_OpAccess.f k t207).bind fun t218 => (laws_FnOps.j0 k t207 t208 t209 (t217 != t218)))) else (laws_FnOps.j0 k t207 t208 t209 true)))) else (laws_FnOps.j0 k t207 t208 t209 true)))) else (laws_FnOps.j0 k t207 t208 t209 true))) else (laws_FnOps.j0 k t207 t208 t209 true)))))))) = some r := H
  have A2 := Aside0.mk A20
  clear A20
  by_cases c3 : t206 = true
  · subst c3
    have H1 : (some true) = some r := by rw [if_pos rfl] at H; exact H
    clear H
    have H := H1
    clear H1
    obtain rfl := Option.some.inj H
    go_enter Try.func14, Try.ntmps14
    go_wp2_with (first | ((with_reducible refine gate_callee (f := 42) rfl ?_); refine goesL_ (some 7) rfl rfl Try.func42 (by kernel_rfl) rfl #[.slice A0 l0.length c0] rfl (by (try simp only [List.map_toArray, List.map_cons, List.map_nil]); first | done | rfl | (simp only [List.length_drop, List.length_take]; rfl)) ?_; (with_reducible refine (laws_big.calls _ _ l0 true _ ?side1 ?side2 A2.out).mono ?_); (case side1 => repeat (first | exact HR0.out | (with_reducible refine Kd.C_alloc ?_ _) | (with_reducible refine Kd.C_drewN ?_ _) | (with_reducible refine Kd.C_drew ?_))); (case side2 => exact HC0.out); rintro e w' ⟨rfl, ⟨nd, rfl⟩⟩; refine ⟨_, rfl, ?_⟩))
    go_ret
    exact ⟨by first | rfl | (simp [errW_none, errW_some] <;> rfl) | (simp [*, errW_none, errW_some] <;> rfl), by repeat (first | (with_reducible first | exact HB.out | apply below_alloc | apply pw_below_drewN | apply below_drew1) | exact HB.out)⟩
  · replace c3 := Bool.eq_false_iff.mpr c3
    subst c3
    have H1 : ((spec_DrawOpName.f k l0).bind fun t207 => ((spec_DrawOpOf.f k l0).bind fun t208 => ((impl_OpOf.f k t208).bind fun t209 => ((impl_OpName.f t207).bind fun t210 => ((spec_OpName.f t207).bind fun t211 => (if t210.toList = t211.toList then ((spec_OpOf.f k t208).bind fun t212 => (if t209 = t212 then ((impl_OpLen.f k t207).bind fun t213 => ((spec_OpLen.f t207).bind fun t214 => (if t213 = t214 then ((impl_OpCycles.f k t207).bind fun t215 => ((spec_OpCycles.f t207).bind fun t216 => (if t215 = t216 then ((impl_OpAccess.f k t207).bind fun t217 => ((spec_OpAccess.f k t207).bind fun t218 => (laws_FnOps.j0 k t207 t208 t209 (t217 != t218)))) else (laws_FnOps.j0 k t207 t208 t209 true)))) else (laws_FnOps.j0 k t207 t208 t209 true)))) else (laws_FnOps.j0 k t207 t208 t209 true))) else (laws_FnOps.j0 k t207 t208 t209 true))))))) = some r := by rw [if_neg (show ¬ (false = true) by decide)] at H; exact H
    clear H
    have H := H1
    clear H1
    replace H := Option.bind_eq_some_iff.mp H
    obtain ⟨t207, A40, H⟩ := H
    replace H : ((spec_DrawOpOf.f k l0).bind fun t208 => ((impl_OpOf.f k t208).bind fun t209 => ((impl_OpName.f t207).bind fun t210 => ((spec_OpName.f t207).bind fun t211 => (if t210.toList = t211.toList then ((spec_OpOf.f k t208).bind fun t212 => (if t209 = t212 then ((impl_OpLen.f k t207).bind fun t213 => ((spec_OpLen.f t207).bind fun t214 => (if t213 = t214 then ((impl_OpCycles.f k t207).bind fun t215 => ((spec_OpCycles.f t207).bind fun t216 => (if t215 = t216 then ((impl_OpAccess.f k t207).bind fun t217 => ((spec_OpAccess.f k t207).bind fun t218 => (laws_FnOps.j0 k t207 t208 t209 (t217 != t218)))) else (laws_FnOps.j0 k t207 t208 t209 true)))) else (laws_FnOps.j0 k t207 t208 t209 true)))) else (laws_FnOps.j0 k t207 t208 t209 true))) else (laws_FnOps.j0 k t207 t208 t209 true)))))) = some r := H
    have A4 := Aside0.mk A40
    clear A40
    replace H := Option.bind_eq_some_iff.mp H
    obtain ⟨t208, A50, H⟩ := H
    replace H : ((impl_OpOf.f k t208).bind fun t209 => ((impl_OpName.f t207).bind fun t210 => ((spec_OpName.f t207).bind fun t211 => (if t210.toList = t211.toList then ((spec_OpOf.f k t208).bind fun t212 => (if t209 = t212 then ((impl_OpLen.f k t207).bind fun t213 => ((spec_OpLen.f t207).bind fun t214 => (if t213 = t214 then ((impl_OpCycles.f k t207).bind fun t215 => ((spec_OpCycles.f t207).bind fun t216 => (if t215 = t216 then ((impl_OpAccess.f k t207).bind fun t217 => ((spec_OpAccess.f k t207).bind fun t218 => (laws_FnOps.j0 k t207 t208 t209 (t217 != t218)))) else (laws_FnOps.j0 k t207 t208 t209 true)))) else (laws_FnOps.j0 k t207 t208 t209 true)))) else (laws_FnOps.j0 k t207 t208 t209 true))) else (laws_FnOps.j0 k t207 t208 t209 true))))) = some r := H
    have A5 := Aside0.mk A50
    clear A50
    replace H := Option.bind_eq_some_iff.mp H
    obtain ⟨t209, A60, H⟩ := H
    replace H : ((impl_OpName.f t207).bind fun t210 => ((spec_OpName.f t207).bind fun t211 => (if t210.toList = t211.toList then ((spec_OpOf.f k t208).bind fun t212 => (if t209 = t212 then ((impl_OpLen.f k t207).bind fun t213 => ((spec_OpLen.f t207).bind fun t214 => (if t213 = t214 then ((impl_OpCycles.f k t207).bind fun t215 => ((spec_OpCycles.f t207).bind fun t216 => (if t215 = t216 then ((impl_OpAccess.f k t207).bind fun t217 => ((spec_OpAccess.f k t207).bind fun t218 => (laws_FnOps.j0 k t207 t208 t209 (t217 != t218)))) else (laws_FnOps.j0 k t207 t208 t209 true)))) else (laws_FnOps.j0 k t207 t208 t209 true)))) else (laws_FnOps.j0 k t207 t208 t209 true))) else (laws_FnOps.j0 k t207 t208 t209 true)))) = some r := H
    have A6 := Aside0.mk A60
    clear A60
    have HC7 := Aside0.mk H
    clear H
    go_enter Try.func14, Try.ntmps14
    go_upto_region 6 with (first | ((with_reducible refine gate_callee (f := 42) rfl ?_); refine goesL_ (some 7) rfl rfl Try.func42 (by kernel_rfl) rfl #[.slice A0 l0.length c0] rfl (by (try simp only [List.map_toArray, List.map_cons, List.map_nil]); first | done | rfl | (simp only [List.length_drop, List.length_take]; rfl)) ?_; (with_reducible refine (laws_big.calls _ _ l0 false _ ?side1 ?side2 A2.out).mono ?_); (case side1 => repeat (first | exact HR0.out | (with_reducible refine Kd.C_alloc ?_ _) | (with_reducible refine Kd.C_drewN ?_ _) | (with_reducible refine Kd.C_drew ?_))); (case side2 => exact HC0.out); rintro e w' ⟨rfl, ⟨nd, rfl⟩⟩; refine ⟨_, rfl, ?_⟩) | ((with_reducible refine gate_callee (f := 59) rfl ?_); refine goesL_ (some 9) rfl rfl Try.func59 (by kernel_rfl) rfl #[.slice A0 l0.length c0] rfl (by (try simp only [List.map_toArray, List.map_cons, List.map_nil]); first | done | rfl | (simp only [List.length_drop, List.length_take]; rfl)) ?_; (with_reducible refine (spec_DrawOpName.calls k _ _ l0 t207 _ ?side1 ?side2 A4.out).mono ?_); (case side1 => repeat (first | exact HR0.out | (with_reducible refine Kd.C_alloc ?_ _) | (with_reducible refine Kd.C_drewN ?_ _) | (with_reducible refine Kd.C_drew ?_))); (case side2 => exact HC0.out); rintro e w8 ⟨rfl, hb⟩; refine ⟨_, rfl, ?_⟩; have n0_ := Aside0.mk (below_step (by repeat (first | (with_reducible first | exact HB.out | apply below_alloc | apply pw_below_drewN | apply below_drew1) | exact HB.out)) hb); clear HB; have HB := n0_; clear n0_; (try clear hb); (try clear hb2); (try clear hk); (try clear hi)) | ((with_reducible refine gate_callee (f := 60) rfl ?_); refine goesL_ (some 11) rfl rfl Try.func60 (by kernel_rfl) rfl #[.slice A0 l0.length c0] rfl (by (try simp only [List.map_toArray, List.map_cons, List.map_nil]); first | done | rfl | (simp only [List.length_drop, List.length_take]; rfl)) ?_; (with_reducible refine (spec_DrawOpOf.calls k _ _ l0 t208 _ ?side1 ?side2 A5.out).mono ?_); (case side1 => repeat (first | exact (Kd.C_below HR0.out HB.out) | (with_reducible refine Kd.C_alloc ?_ _) | (with_reducible refine Kd.C_drewN ?_ _) | (with_reducible refine Kd.C_drew ?_))); (case side2 => exact HC0.out); rintro e w9 ⟨rfl, hb⟩; refine ⟨_, rfl, ?_⟩; have n0_ := Aside0.mk (below_step (by repeat (first | (with_reducible first | exact HB.out | apply below_alloc | apply pw_below_drewN | apply below_drew1) | exact HB.out)) hb); clear HB; have HB := n0_; clear n0_; (try clear hb); (try clear hb2); (try clear hk); (try clear hi)) | ((with_reducible refine gate_callee (f := 18) rfl ?_); refine goesL_ (some 13) rfl rfl Try.func18 (by kernel_rfl) rfl #[.string t208] rfl (by (try simp only [List.map_toArray, List.map_cons, List.map_nil]); first | done | rfl | (simp only [List.length_drop, List.length_take]; rfl)) ?_; (with_reducible refine (impl_OpOf.calls k t208 t209 _ A6.out).mono ?_); rintro e w10 ⟨rfl, hb⟩; refine ⟨_, rfl, ?_⟩; have n0_ := Aside0.mk (below_step (by repeat (first | (with_reducible first | exact HB.out | apply below_alloc | apply pw_below_drewN | apply below_drew1) | exact HB.out)) hb); clear HB; have HB := n0_; clear n0_; (try clear hb); (try clear hb2); (try clear hk); (try clear hi)))
    (try simp only [Act.put, List.setIfInBounds_toArray, List.set_cons_zero, List.set_cons_succ])
    go_cut [45] (fun v45 wc => ∃ (kq : Nat) (x45_6 : Bool), v45 = .bool x45_6 ∧ Aside0 (laws_FnOps.j0 kq t207 t208 t209 x45_6 = some r) ∧ Aside0 (kq ≤ k) ∧ Aside0 (Below w.heap.size w wc))
    case first =>
      have H := HC7.out
      clear HC7
      replace H := Option.bind_eq_some_iff.mp H
      obtain ⟨t210, A110, H⟩ := H
      replace H : ((spec_OpName.f t207).bind fun t211 => (if t210.toList = t211.toList then ((spec_OpOf.f k t208).bind fun t212 => (if t209 = t212 then ((impl_OpLen.f k t207).bind fun t213 => ((spec_OpLen.f t207).bind fun t214 => (if t213 = t214 then ((impl_OpCycles.f k t207).bind fun t215 => ((spec_OpCycles.f t207).bind fun t216 => (if t215 = t216 then ((impl_OpAccess.f k t207).bind fun t217 => ((spec_OpAccess.f k t207).bind fun t218 => (laws_FnOps.j0 k t207 t208 t209 (t217 != t218)))) else (laws_FnOps.j0 k t207 t208 t209 true)))) else (laws_FnOps.j0 k t207 t208 t209 true)))) else (laws_FnOps.j0 k t207 t208 t209 true))) else (laws_FnOps.j0 k t207 t208 t209 true))) = some r := H
      have A11 := Aside0.mk A110
      clear A110
      replace H := Option.bind_eq_some_iff.mp H
      obtain ⟨t211, A120, H⟩ := H
      replace H : (if t210.toList = t211.toList then ((spec_OpOf.f k t208).bind fun t212 => (if t209 = t212 then ((impl_OpLen.f k t207).bind fun t213 => ((spec_OpLen.f t207).bind fun t214 => (if t213 = t214 then ((impl_OpCycles.f k t207).bind fun t215 => ((spec_OpCycles.f t207).bind fun t216 => (if t215 = t216 then ((impl_OpAccess.f k t207).bind fun t217 => ((spec_OpAccess.f k t207).bind fun t218 => (laws_FnOps.j0 k t207 t208 t209 (t217 != t218)))) else (laws_FnOps.j0 k t207 t208 t209 true)))) else (laws_FnOps.j0 k t207 t208 t209 true)))) else (laws_FnOps.j0 k t207 t208 t209 true))) else (laws_FnOps.j0 k t207 t208 t209 true)) = some r := H
      have A12 := Aside0.mk A120
      clear A120
      by_cases c13 : t210.toList = t211.toList
      · rw [if_pos c13] at H
        have c13b0 : (t210.toList == t211.toList) = true := beq_iff_eq.mpr c13
        have c13b1 : (t210.toList != t211.toList) = false := bne_eq_false_iff_eq.mpr c13
        clear c13
        (first | rw [c13b0] | (simp only [i64_w, i32_w]; rw [c13b0]) | skip)
        replace H := Option.bind_eq_some_iff.mp H
        obtain ⟨t212, A140, H⟩ := H
        replace H : (if t209 = t212 then ((impl_OpLen.f k t207).bind fun t213 => ((spec_OpLen.f t207).bind fun t214 => (if t213 = t214 then ((impl_OpCycles.f k t207).bind fun t215 => ((spec_OpCycles.f t207).bind fun t216 => (if t215 = t216 then ((impl_OpAccess.f k t207).bind fun t217 => ((spec_OpAccess.f k t207).bind fun t218 => (laws_FnOps.j0 k t207 t208 t209 (t217 != t218)))) else (laws_FnOps.j0 k t207 t208 t209 true)))) else (laws_FnOps.j0 k t207 t208 t209 true)))) else (laws_FnOps.j0 k t207 t208 t209 true)) = some r := H
        have A14 := Aside0.mk A140
        clear A140
        by_cases c15 : t209 = t212
        · rw [if_pos c15] at H
          have c15b0 : (t209 == t212) = true := beq_iff_eq.mpr c15
          have c15b1 : (t209 != t212) = false := bne_eq_false_iff_eq.mpr c15
          clear c15
          replace H := Option.bind_eq_some_iff.mp H
          obtain ⟨t213, A160, H⟩ := H
          replace H : ((spec_OpLen.f t207).bind fun t214 => (if t213 = t214 then ((impl_OpCycles.f k t207).bind fun t215 => ((spec_OpCycles.f t207).bind fun t216 => (if t215 = t216 then ((impl_OpAccess.f k t207).bind fun t217 => ((spec_OpAccess.f k t207).bind fun t218 => (laws_FnOps.j0 k t207 t208 t209 (t217 != t218)))) else (laws_FnOps.j0 k t207 t208 t209 true)))) else (laws_FnOps.j0 k t207 t208 t209 true))) = some r := H
          have A16 := Aside0.mk A160
          clear A160
          replace H := Option.bind_eq_some_iff.mp H
          obtain ⟨t214, A170, H⟩ := H
          replace H : (if t213 = t214 then ((impl_OpCycles.f k t207).bind fun t215 => ((spec_OpCycles.f t207).bind fun t216 => (if t215 = t216 then ((impl_OpAccess.f k t207).bind fun t217 => ((spec_OpAccess.f k t207).bind fun t218 => (laws_FnOps.j0 k t207 t208 t209 (t217 != t218)))) else (laws_FnOps.j0 k t207 t208 t209 true)))) else (laws_FnOps.j0 k t207 t208 t209 true)) = some r := H
          have A17 := Aside0.mk A170
          clear A170
          by_cases c18 : t213 = t214
          · rw [if_pos c18] at H
            have c18b0 : (t213 == t214) = true := beq_iff_eq.mpr c18
            have c18b1 : (t213 != t214) = false := bne_eq_false_iff_eq.mpr c18
            clear c18
            replace H := Option.bind_eq_some_iff.mp H
            obtain ⟨t215, A190, H⟩ := H
            replace H : ((spec_OpCycles.f t207).bind fun t216 => (if t215 = t216 then ((impl_OpAccess.f k t207).bind fun t217 => ((spec_OpAccess.f k t207).bind fun t218 => (laws_FnOps.j0 k t207 t208 t209 (t217 != t218)))) else (laws_FnOps.j0 k t207 t208 t209 true))) = some r := H
            have A19 := Aside0.mk A190
            clear A190
            replace H := Option.bind_eq_some_iff.mp H
            obtain ⟨t216, A200, H⟩ := H
            replace H : (if t215 = t216 then ((impl_OpAccess.f k t207).bind fun t217 => ((spec_OpAccess.f k t207).bind fun t218 => (laws_FnOps.j0 k t207 t208 t209 (t217 != t218)))) else (laws_FnOps.j0 k t207 t208 t209 true)) = some r := H
            have A20 := Aside0.mk A200
            clear A200
            by_cases c21 : t215 = t216
            · rw [if_pos c21] at H
              have c21b0 : (t215 == t216) = true := beq_iff_eq.mpr c21
              have c21b1 : (t215 != t216) = false := bne_eq_false_iff_eq.mpr c21
              clear c21
              replace H := Option.bind_eq_some_iff.mp H
              obtain ⟨t217, A220, H⟩ := H
              replace H : ((spec_OpAccess.f k t207).bind fun t218 => (laws_FnOps.j0 k t207 t208 t209 (t217 != t218))) = some r := H
              have A22 := Aside0.mk A220
              clear A220
              replace H := Option.bind_eq_some_iff.mp H
              obtain ⟨t218, A230, H⟩ := H
              replace H : (laws_FnOps.j0 k t207 t208 t209 (t217 != t218)) = some r := H
              have A23 := Aside0.mk A230
              clear A230
              have H' := Aside0.mk H
              clear H
              go_wp2_with (first | ((with_reducible refine gate_callee (f := 16) rfl ?_); refine goesL_ (some 15) rfl rfl Try.func16 (by kernel_rfl) rfl #[.int .i64 t207] rfl (by (try simp only [List.map_toArray, List.map_cons, List.map_nil]); first | done | rfl | (simp only [List.length_drop, List.length_take]; rfl)) ?_; (with_reducible refine (impl_OpName.calls t207 t210 _ A11.out).mono ?_); rintro e w24 ⟨rfl, hb⟩; refine ⟨_, rfl, ?_⟩; have n0_ := Aside0.mk (below_step (by repeat (first | (with_reducible first | exact HB.out | apply below_alloc | apply pw_below_drewN | apply below_drew1) | exact HB.out)) hb); clear HB; have HB := n0_; clear n0_; (try clear hb); (try clear hb2); (try clear hk); (try clear hi)) | ((with_reducible refine gate_callee (f := 15) rfl ?_); refine goesL_ (some 17) rfl rfl Try.func15 (by kernel_rfl) rfl #[.int .i64 t207] rfl (by (try simp only [List.map_toArray, List.map_cons, List.map_nil]); first | done | rfl | (simp only [List.length_drop, List.length_take]; rfl)) ?_; (with_reducible refine (spec_OpName.calls t207 t211 _ A12.out).mono ?_); rintro e w25 ⟨rfl, hb⟩; refine ⟨_, rfl, ?_⟩; have n0_ := Aside0.mk (below_step (by repeat (first | (with_reducible first | exact HB.out | apply below_alloc | apply pw_below_drewN | apply below_drew1) | exact HB.out)) hb); clear HB; have HB := n0_; clear n0_; (try clear hb); (try clear hb2); (try clear hk); (try clear hi)) | (go_at_call 17; (with_reducible refine (spec_OpOf.calls k t208 t212 _ A14.out).mono ?_); rintro e w26 ⟨rfl, hb⟩; have n0_ := Aside0.mk (below_step (by repeat (first | (with_reducible first | exact HB.out | apply below_alloc | apply pw_below_drewN | apply below_drew1) | exact HB.out)) hb); clear HB; have HB := n0_; clear n0_; (try clear hb); (try clear hb2); (try clear hk); (try clear hi)) | (go_at_call 61; (with_reducible refine (impl_OpLen.calls k t207 t213 _ A16.out).mono ?_); rintro e w' ⟨rfl, ⟨nd, rfl⟩⟩) | (go_at_call 62; (with_reducible refine (spec_OpLen.calls t207 t214 _ A17.out).mono ?_); rintro e w27 ⟨rfl, hb⟩; have n0_ := Aside0.mk (below_step (by repeat (first | (with_reducible first | exact HB.out | apply below_alloc | apply pw_below_drewN | apply below_drew1) | exact HB.out)) hb); clear HB; have HB := n0_; clear n0_; (try clear hb); (try clear hb2); (try clear hk); (try clear hi)) | (go_at_call 63; (with_reducible refine (impl_OpCycles.calls k t207 t215 _ A19.out).mono ?_); rintro e w' ⟨rfl, ⟨nd, rfl⟩⟩) | (go_at_call 64; (with_reducible refine (spec_OpCycles.calls t207 t216 _ A20.out).mono ?_); rintro e w28 ⟨rfl, hb⟩; have n0_ := Aside0.mk (below_step (by repeat (first | (with_reducible first | exact HB.out | apply below_alloc | apply pw_below_drewN | apply below_drew1) | exact HB.out)) hb); clear HB; have HB := n0_; clear n0_; (try clear hb); (try clear hb2); (try clear hk); (try clear hi)) | (go_at_call 65; (with_reducible refine (impl_OpAccess.calls k t207 t217 _ A22.out).mono ?_); rintro e w' ⟨rfl, ⟨nd, rfl⟩⟩) | (go_at_call 66; (with_reducible refine (spec_OpAccess.calls k t207 t218 _ A23.out).mono ?_); rintro e w' ⟨rfl, ⟨nd, rfl⟩⟩))
              go_meet
              case rel => exact ⟨_, ((t217 != t218)), (by first | rfl | (simp; done) | (simp [*]; done)), H', ⟨by first | omega | exact Nat.le_refl _⟩, ⟨by repeat (first | (with_reducible first | exact HB.out | apply below_alloc | apply pw_below_drewN | apply below_drew1) | exact HB.out)⟩⟩
            · rw [if_neg c21] at H
              have c21b0 : (t215 == t216) = false := beq_eq_false_iff_ne.mpr c21
              have c21b1 : (t215 != t216) = true := bne_iff_ne.mpr c21
              exact absurd (show r = false by first | (cases k with | zero => (simp [laws_FnOps.j0] at H; done) | succ k_ => (simp [laws_FnOps.j0] at H; (first | exact H | exact H.symm))) | (cases kj43 with | zero => (simp [laws_FnOps.j0] at H; done) | succ k_ => (simp [laws_FnOps.j0] at H; (first | exact H | exact H.symm))) | (cases kj6 with | zero => (simp [laws_FnOps.j0] at H; done) | succ k_ => (simp [laws_FnOps.j0] at H; (first | exact H | exact H.symm)))) (by rw [hrt]; decide)
          · rw [if_neg c18] at H
            have c18b0 : (t213 == t214) = false := beq_eq_false_iff_ne.mpr c18
            have c18b1 : (t213 != t214) = true := bne_iff_ne.mpr c18
            exact absurd (show r = false by first | (cases k with | zero => (simp [laws_FnOps.j0] at H; done) | succ k_ => (simp [laws_FnOps.j0] at H; (first | exact H | exact H.symm))) | (cases kj43 with | zero => (simp [laws_FnOps.j0] at H; done) | succ k_ => (simp [laws_FnOps.j0] at H; (first | exact H | exact H.symm))) | (cases kj6 with | zero => (simp [laws_FnOps.j0] at H; done) | succ k_ => (simp [laws_FnOps.j0] at H; (first | exact H | exact H.symm)))) (by rw [hrt]; decide)
        · rw [if_neg c15] at H
          have c15b0 : (t209 == t212) = false := beq_eq_false_iff_ne.mpr c15
          have c15b1 : (t209 != t212) = true := bne_iff_ne.mpr c15
          exact absurd (show r = false by first | (cases k with | zero => (simp [laws_FnOps.j0] at H; done) | succ k_ => (simp [laws_FnOps.j0] at H; (first | exact H | exact H.symm))) | (cases kj43 with | zero => (simp [laws_FnOps.j0] at H; done) | succ k_ => (simp [laws_FnOps.j0] at H; (first | exact H | exact H.symm))) | (cases kj6 with | zero => (simp [laws_FnOps.j0] at H; done) | succ k_ => (simp [laws_FnOps.j0] at H; (first | exact H | exact H.symm)))) (by rw [hrt]; decide)
      · rw [if_neg c13] at H
        have c13b0 : (t210.toList == t211.toList) = false := beq_eq_false_iff_ne.mpr c13
        have c13b1 : (t210.toList != t211.toList) = true := bne_iff_ne.mpr c13
        (first | rw [c13b0] | (simp only [i64_w, i32_w]; rw [c13b0]) | skip)
        exact absurd (show r = false by first | (cases k with | zero => (simp [laws_FnOps.j0] at H; done) | succ k_ => (simp [laws_FnOps.j0] at H; (first | exact H | exact H.symm))) | (cases kj43 with | zero => (simp [laws_FnOps.j0] at H; done) | succ k_ => (simp [laws_FnOps.j0] at H; (first | exact H | exact H.symm))) | (cases kj6 with | zero => (simp [laws_FnOps.j0] at H; done) | succ k_ => (simp [laws_FnOps.j0] at H; (first | exact H | exact H.symm)))) (by rw [hrt]; decide)
    case rest =>
      clear HC7
      try clear c1
      try clear c2
      try clear p2
      try clear c3
      try clear c4
      try clear c5
      try clear c6
      try clear c13
      try clear c13b0
      try clear c13b1
      try clear c14
      try clear c15
      try clear c15b0
      try clear c15b1
      try clear c16
      try clear c18
      try clear c18b0
      try clear c18b1
      try clear c21
      try clear c21b0
      try clear c21b1
      try clear c42
      obtain ⟨kq, x45_6, rfl, HA, HJ6, HB⟩ := hcut
      cases kq with
      | zero => exact absurd HA.out (by simp [laws_FnOps.j0])
      | succ kj6 =>
        have H := HA.out
        clear HA
        simp only [laws_FnOps.j0] at H
        by_cases c43 : x45_6 = true
        · subst c43
          have H1 : (some false) = some r := by rw [if_pos rfl] at H; exact H
          clear H
          have H := H1
          clear H1
          exact absurd ((Option.some.inj H).trans hrt) (by decide)
        · replace c43 := Bool.eq_false_iff.mpr c43
          subst c43
          have H1 : (if t209 ≥ 0 then ((impl_OpName.f t209).bind fun t219 => (if t219.toList = t208.toList then ((impl_OpName.f t207).bind fun t220 => (if t220.toList = ([] : List UInt8) then (laws_FnOps.j1 kj6 t207 false) else ((impl_OpName.f t207).bind fun t221 => ((impl_OpOf.f kj6 t221).bind fun t222 => (laws_FnOps.j1 kj6 t207 (t222 != t207)))))) else (laws_FnOps.j1 kj6 t207 true))) else ((impl_OpName.f t207).bind fun t223 => (if t223.toList = ([] : List UInt8) then (laws_FnOps.j1 kj6 t207 false) else ((impl_OpName.f t207).bind fun t224 => ((impl_OpOf.f kj6 t224).bind fun t225 => (laws_FnOps.j1 kj6 t207 (t225 != t207))))))) = some r := by rw [if_neg (show ¬ (false = true) by decide)] at H; exact H
          clear H
          have H := H1
          clear H1
          have HC44 := Aside0.mk H
          clear H
          go_upto_region 8 with (fail)
          go_cut [65] (fun v65 wc => ∃ (kq : Nat) (x65_43 : Bool), v65 = .bool x65_43 ∧ Aside0 (laws_FnOps.j1 kq t207 x65_43 = some r) ∧ Aside0 (kq ≤ kj6) ∧ Aside0 (Below w.heap.size w wc))
          case first =>
            have H := HC44.out
            clear HC44
            by_cases c45 : t209 ≥ 0
            · rw [if_pos c45] at H
              have c45b0 : decide (0 ≤ t209) = true := decide_eq_true c45
              clear c45
              (first | rw [c45b0] | (simp only [i64_w, i32_w]; rw [c45b0]) | skip)
              replace H := Option.bind_eq_some_iff.mp H
              obtain ⟨t219, A460, H⟩ := H
              replace H : (if t219.toList = t208.toList then ((impl_OpName.f t207).bind fun t220 => (if t220.toList = ([] : List UInt8) then (laws_FnOps.j1 kj6 t207 false) else ((impl_OpName.f t207).bind fun t221 => ((impl_OpOf.f kj6 t221).bind fun t222 => (laws_FnOps.j1 kj6 t207 (t222 != t207)))))) else (laws_FnOps.j1 kj6 t207 true)) = some r := H
              have A46 := Aside0.mk A460
              clear A460
              by_cases c47 : t219.toList = t208.toList
              · rw [if_pos c47] at H
                have c47b0 : (t219.toList == t208.toList) = true := beq_iff_eq.mpr c47
                have c47b1 : (t219.toList != t208.toList) = false := bne_eq_false_iff_eq.mpr c47
                clear c47
                replace H := Option.bind_eq_some_iff.mp H
                obtain ⟨t220, A480, H⟩ := H
                replace H : (if t220.toList = ([] : List UInt8) then (laws_FnOps.j1 kj6 t207 false) else ((impl_OpName.f t207).bind fun t221 => ((impl_OpOf.f kj6 t221).bind fun t222 => (laws_FnOps.j1 kj6 t207 (t222 != t207))))) = some r := H
                have A48 := Aside0.mk A480
                clear A480
                by_cases c49 : t220.toList = ([] : List UInt8)
                · rw [if_pos c49] at H
                  have c49b0 : (t220.toList == ([] : List UInt8)) = true := beq_iff_eq.mpr c49
                  have c49b1 : (t220.toList != ([] : List UInt8)) = false := bne_eq_false_iff_eq.mpr c49
                  clear c49
                  have H' := Aside0.mk H
                  clear H
                  go_wp2_with (first | (go_at_call 16; (with_reducible refine (impl_OpName.calls t209 t219 _ A46.out).mono ?_); rintro e w50 ⟨rfl, hb⟩; have n0_ := Aside0.mk (below_step (by repeat (first | (with_reducible first | exact HB.out | apply below_alloc | apply pw_below_drewN | apply below_drew1) | exact HB.out)) hb); clear HB; have HB := n0_; clear n0_; (try clear hb); (try clear hb2); (try clear hk); (try clear hi)) | (go_at_call 16; (with_reducible refine (impl_OpName.calls t207 t220 _ A48.out).mono ?_); rintro e w51 ⟨rfl, hb⟩; have n0_ := Aside0.mk (below_step (by repeat (first | (with_reducible first | exact HB.out | apply below_alloc | apply pw_below_drewN | apply below_drew1) | exact HB.out)) hb); clear HB; have HB := n0_; clear n0_; (try clear hb); (try clear hb2); (try clear hk); (try clear hi)))
                  go_meet
                  case rel => exact ⟨_, (false), (by first | rfl | (simp; done) | (simp [*]; done)), H', ⟨by have := HJ6.out; first | omega | exact Nat.le_refl _⟩, ⟨by repeat (first | (with_reducible first | exact HB.out | apply below_alloc | apply pw_below_drewN | apply below_drew1) | exact HB.out)⟩⟩
                · rw [if_neg c49] at H
                  have c49b0 : (t220.toList == ([] : List UInt8)) = false := beq_eq_false_iff_ne.mpr c49
                  have c49b1 : (t220.toList != ([] : List UInt8)) = true := bne_iff_ne.mpr c49
                  replace H := Option.bind_eq_some_iff.mp H
                  obtain ⟨t221, A520, H⟩ := H
                  have e_ := Option.some.inj (A48.out.symm.trans A520)
                  subst e_
                  replace H : ((impl_OpOf.f kj6 t220).bind fun t222 => (laws_FnOps.j1 kj6 t207 (t222 != t207))) = some r := H
                  have A52 := Aside0.mk A520
                  clear A520
                  replace H := Option.bind_eq_some_iff.mp H
                  obtain ⟨t222, A530, H⟩ := H
                  replace H : (laws_FnOps.j1 kj6 t207 (t222 != t207)) = some r := H
                  have A53 := Aside0.mk A530
                  clear A530
                  have H' := Aside0.mk H
                  clear H
                  go_wp2_with (first | (go_at_call 16; (with_reducible refine (impl_OpName.calls t209 t219 _ A46.out).mono ?_); rintro e w54 ⟨rfl, hb⟩; have n0_ := Aside0.mk (below_step (by repeat (first | (with_reducible first | exact HB.out | apply below_alloc | apply pw_below_drewN | apply below_drew1) | exact HB.out)) hb); clear HB; have HB := n0_; clear n0_; (try clear hb); (try clear hb2); (try clear hk); (try clear hi)) | (go_at_call 16; (with_reducible refine (impl_OpName.calls t207 t220 _ A48.out).mono ?_); rintro e w55 ⟨rfl, hb⟩; have n0_ := Aside0.mk (below_step (by repeat (first | (with_reducible first | exact HB.out | apply below_alloc | apply pw_below_drewN | apply below_drew1) | exact HB.out)) hb); clear HB; have HB := n0_; clear n0_; (try clear hb); (try clear hb2); (try clear hk); (try clear hi)) | (go_at_call 16; (with_reducible refine (impl_OpName.calls t207 t220 _ A52.out).mono ?_); rintro e w56 ⟨rfl, hb⟩; have n0_ := Aside0.mk (below_step (by repeat (first | (with_reducible first | exact HB.out | apply below_alloc | apply pw_below_drewN | apply below_drew1) | exact HB.out)) hb); clear HB; have HB := n0_; clear n0_; (try clear hb); (try clear hb2); (try clear hk); (try clear hi)) | (go_at_call 18; (with_reducible refine (impl_OpOf.calls kj6 t220 t222 _ A53.out).mono ?_); rintro e w57 ⟨rfl, hb⟩; have n0_ := Aside0.mk (below_step (by repeat (first | (with_reducible first | exact HB.out | apply below_alloc | apply pw_below_drewN | apply below_drew1) | exact HB.out)) hb); clear HB; have HB := n0_; clear n0_; (try clear hb); (try clear hb2); (try clear hk); (try clear hi)))
                  go_meet
                  case rel => exact ⟨_, ((t222 != t207)), (by first | rfl | (simp; done) | (simp [*]; done)), H', ⟨by have := HJ6.out; first | omega | exact Nat.le_refl _⟩, ⟨by repeat (first | (with_reducible first | exact HB.out | apply below_alloc | apply pw_below_drewN | apply below_drew1) | exact HB.out)⟩⟩
              · rw [if_neg c47] at H
                have c47b0 : (t219.toList == t208.toList) = false := beq_eq_false_iff_ne.mpr c47
                have c47b1 : (t219.toList != t208.toList) = true := bne_iff_ne.mpr c47
                exact absurd (show r = false by first | (cases k with | zero => (simp [laws_FnOps.j1] at H; done) | succ k_ => (simp [laws_FnOps.j1] at H; (first | exact H | exact H.symm))) | (cases kj43 with | zero => (simp [laws_FnOps.j1] at H; done) | succ k_ => (simp [laws_FnOps.j1] at H; (first | exact H | exact H.symm))) | (cases kj6 with | zero => (simp [laws_FnOps.j1] at H; done) | succ k_ => (simp [laws_FnOps.j1] at H; (first | exact H | exact H.symm)))) (by rw [hrt]; decide)
            · rw [if_neg c45] at H
              have c45b0 : decide (0 ≤ t209) = false := decide_eq_false c45
              clear c45
              (first | rw [c45b0] | (simp only [i64_w, i32_w]; rw [c45b0]) | skip)
              replace H := Option.bind_eq_some_iff.mp H
              obtain ⟨t223, A590, H⟩ := H
              replace H : (if t223.toList = ([] : List UInt8) then (laws_FnOps.j1 kj6 t207 false) else ((impl_OpName.f t207).bind fun t224 => ((impl_OpOf.f kj6 t224).bind fun t225 => (laws_FnOps.j1 kj6 t207 (t225 != t207))))) = some r := H
              have A59 := Aside0.mk A590
              clear A590
              by_cases c60 : t223.toList = ([] : List UInt8)
              · rw [if_pos c60] at H
                have c60b0 : (t223.toList == ([] : List UInt8)) = true := beq_iff_eq.mpr c60
                have c60b1 : (t223.toList != ([] : List UInt8)) = false := bne_eq_false_iff_eq.mpr c60
                clear c60
                have H' := Aside0.mk H
                clear H
                go_wp2_with (first | (go_at_call 16; (with_reducible refine (impl_OpName.calls t207 t223 _ A59.out).mono ?_); rintro e w61 ⟨rfl, hb⟩; have n0_ := Aside0.mk (below_step (by repeat (first | (with_reducible first | exact HB.out | apply below_alloc | apply pw_below_drewN | apply below_drew1) | exact HB.out)) hb); clear HB; have HB := n0_; clear n0_; (try clear hb); (try clear hb2); (try clear hk); (try clear hi)))
                go_meet
                case rel => exact ⟨_, (false), (by first | rfl | (simp; done) | (simp [*]; done)), H', ⟨by have := HJ6.out; first | omega | exact Nat.le_refl _⟩, ⟨by repeat (first | (with_reducible first | exact HB.out | apply below_alloc | apply pw_below_drewN | apply below_drew1) | exact HB.out)⟩⟩
              · rw [if_neg c60] at H
                have c60b0 : (t223.toList == ([] : List UInt8)) = false := beq_eq_false_iff_ne.mpr c60
                have c60b1 : (t223.toList != ([] : List UInt8)) = true := bne_iff_ne.mpr c60
                replace H := Option.bind_eq_some_iff.mp H
                obtain ⟨t224, A620, H⟩ := H
                have e_ := Option.some.inj (A59.out.symm.trans A620)
                subst e_
                replace H : ((impl_OpOf.f kj6 t223).bind fun t225 => (laws_FnOps.j1 kj6 t207 (t225 != t207))) = some r := H
                have A62 := Aside0.mk A620
                clear A620
                replace H := Option.bind_eq_some_iff.mp H
                obtain ⟨t225, A630, H⟩ := H
                replace H : (laws_FnOps.j1 kj6 t207 (t225 != t207)) = some r := H
                have A63 := Aside0.mk A630
                clear A630
                have H' := Aside0.mk H
                clear H
                go_wp2_with (first | (go_at_call 16; (with_reducible refine (impl_OpName.calls t207 t223 _ A59.out).mono ?_); rintro e w64 ⟨rfl, hb⟩; have n0_ := Aside0.mk (below_step (by repeat (first | (with_reducible first | exact HB.out | apply below_alloc | apply pw_below_drewN | apply below_drew1) | exact HB.out)) hb); clear HB; have HB := n0_; clear n0_; (try clear hb); (try clear hb2); (try clear hk); (try clear hi)) | (go_at_call 16; (with_reducible refine (impl_OpName.calls t207 t223 _ A62.out).mono ?_); rintro e w65 ⟨rfl, hb⟩; have n0_ := Aside0.mk (below_step (by repeat (first | (with_reducible first | exact HB.out | apply below_alloc | apply pw_below_drewN | apply below_drew1) | exact HB.out)) hb); clear HB; have HB := n0_; clear n0_; (try clear hb); (try clear hb2); (try clear hk); (try clear hi)) | (go_at_call 18; (with_reducible refine (impl_OpOf.calls kj6 t223 t225 _ A63.out).mono ?_); rintro e w66 ⟨rfl, hb⟩; have n0_ := Aside0.mk (below_step (by repeat (first | (with_reducible first | exact HB.out | apply below_alloc | apply pw_below_drewN | apply below_drew1) | exact HB.out)) hb); clear HB; have HB := n0_; clear n0_; (try clear hb); (try clear hb2); (try clear hk); (try clear hi)))
                go_meet
                case rel => exact ⟨_, ((t225 != t207)), (by first | rfl | (simp; done) | (simp [*]; done)), H', ⟨by have := HJ6.out; first | omega | exact Nat.le_refl _⟩, ⟨by repeat (first | (with_reducible first | exact HB.out | apply below_alloc | apply pw_below_drewN | apply below_drew1) | exact HB.out)⟩⟩
          case rest =>
            clear HC44
            try clear c1
            try clear c2
            try clear p2
            try clear c3
            try clear c4
            try clear c5
            try clear c6
            try clear c13
            try clear c13b0
            try clear c13b1
            try clear c14
            try clear c15
            try clear c15b0
            try clear c15b1
            try clear c16
            try clear c18
            try clear c18b0
            try clear c18b1
            try clear c21
            try clear c21b0
            try clear c21b1
            try clear c42
            try clear c43
            try clear c45
            try clear c45b0
            try clear c47
            try clear c47b0
            try clear c47b1
            try clear c49
            try clear c49b0
            try clear c49b1
            try clear c59
            try clear c60
            try clear c60b0
            try clear c60b1
            try clear p2
            obtain ⟨kq, x65_43, rfl, HA, HJ43, HB⟩ := hcut
            cases kq with
            | zero => exact absurd HA.out (by simp [laws_FnOps.j1])
            | succ kj43 =>
              have H := HA.out
              clear HA
              simp only [laws_FnOps.j1] at H
              by_cases c67 : x65_43 = true
              · subst c67
                have H1 : (some false) = some r := by rw [if_pos rfl] at H; exact H
                clear H
                have H := H1
                clear H1
                exact absurd ((Option.some.inj H).trans hrt) (by decide)
              · replace c67 := Bool.eq_false_iff.mpr c67
                subst c67
                have H1 : ((impl_OpLen.f kj43 t207).bind fun t226 => (if t226 ≥ 1 then ((impl_OpLen.f kj43 t207).bind fun t227 => (if t227 ≤ 3 then ((impl_OpCycles.f kj43 t207).bind fun t228 => (if t228 ≥ 2 then ((impl_OpCycles.f kj43 t207).bind fun t229 => (if t229 ≤ 6 then ((impl_OpAccess.f kj43 t207).bind fun t230 => (if t230 = 0 then (some true) else ((impl_OpLen.f kj43 t207).bind fun t231 => (some (t231 == 3))))) else (some false))) else (some false))) else (some false))) else (some false))) = some r := by rw [if_neg (show ¬ (false = true) by decide)] at H; exact H
                clear H
                have H := H1
                clear H1
                replace H := Option.bind_eq_some_iff.mp H
                obtain ⟨t226, A680, H⟩ := H
                replace H : (if t226 ≥ 1 then ((impl_OpLen.f kj43 t207).bind fun t227 => (if t227 ≤ 3 then ((impl_OpCycles.f kj43 t207).bind fun t228 => (if t228 ≥ 2 then ((impl_OpCycles.f kj43 t207).bind fun t229 => (if t229 ≤ 6 then ((impl_OpAccess.f kj43 t207).bind fun t230 => (if t230 = 0 then (some true) else ((impl_OpLen.f kj43 t207).bind fun t231 => (some (t231 == 3))))) else (some false))) else (some false))) else (some false))) else (some false)) = some r := H
                have A68 := Aside0.mk A680
                clear A680
                by_cases c69 : t226 ≥ 1
                · rw [if_pos c69] at H
                  have c69b0 : decide (1 ≤ t226) = true := decide_eq_true c69
                  clear c69
                  replace H := Option.bind_eq_some_iff.mp H
                  obtain ⟨t227, A700, H⟩ := H
                  have e_ := Option.some.inj (A68.out.symm.trans A700)
                  subst e_
                  replace H : (if t226 ≤ 3 then ((impl_OpCycles.f kj43 t207).bind fun t228 => (if t228 ≥ 2 then ((impl_OpCycles.f kj43 t207).bind fun t229 => (if t229 ≤ 6 then ((impl_OpAccess.f kj43 t207).bind fun t230 => (if t230 = 0 then (some true) else ((impl_OpLen.f kj43 t207).bind fun t231 => (some (t231 == 3))))) else (some false))) else (some false))) else (some false)) = some r := H
                  have A70 := Aside0.mk A700
                  clear A700
                  by_cases c71 : t226 ≤ 3
                  · rw [if_pos c71] at H
                    have c71b0 : decide (t226 ≤ 3) = true := decide_eq_true c71
                    clear c71
                    replace H := Option.bind_eq_some_iff.mp H
                    obtain ⟨t228, A720, H⟩ := H
                    replace H : (if t228 ≥ 2 then ((impl_OpCycles.f kj43 t207).bind fun t229 => (if t229 ≤ 6 then ((impl_OpAccess.f kj43 t207).bind fun t230 => (if t230 = 0 then (some true) else ((impl_OpLen.f kj43 t207).bind fun t231 => (some (t231 == 3))))) else (some false))) else (some false)) = some r := H
                    have A72 := Aside0.mk A720
                    clear A720
                    by_cases c73 : t228 ≥ 2
                    · rw [if_pos c73] at H
                      have c73b0 : decide (2 ≤ t228) = true := decide_eq_true c73
                      clear c73
                      replace H := Option.bind_eq_some_iff.mp H
                      obtain ⟨t229, A740, H⟩ := H
                      have e_ := Option.some.inj (A72.out.symm.trans A740)
                      subst e_
                      replace H : (if t228 ≤ 6 then ((impl_OpAccess.f kj43 t207).bind fun t230 => (if t230 = 0 then (some true) else ((impl_OpLen.f kj43 t207).bind fun t231 => (some (t231 == 3))))) else (some false)) = some r := H
                      have A74 := Aside0.mk A740
                      clear A740
                      by_cases c75 : t228 ≤ 6
                      · rw [if_pos c75] at H
                        have c75b0 : decide (t228 ≤ 6) = true := decide_eq_true c75
                        clear c75
                        replace H := Option.bind_eq_some_iff.mp H
                        obtain ⟨t230, A760, H⟩ := H
                        replace H : (if t230 = 0 then (some true) else ((impl_OpLen.f kj43 t207).bind fun t231 => (some (t231 == 3)))) = some r := H
                        have A76 := Aside0.mk A760
                        clear A760
                        by_cases c77 : t230 = 0
                        · rw [if_pos c77] at H
                          have c77b0 : (t230 == 0) = true := beq_iff_eq.mpr c77
                          have c77b1 : (t230 != 0) = false := bne_eq_false_iff_eq.mpr c77
                          clear c77
                          obtain rfl := Option.some.inj H
                          go_wp2_with (first | ((with_reducible refine gate_callee (f := 61) rfl ?_); refine goesL_ (some 67) rfl rfl Try.func61 (by kernel_rfl) rfl #[.int .i64 t207] rfl (by (try simp only [List.map_toArray, List.map_cons, List.map_nil]); first | done | rfl | (simp only [List.length_drop, List.length_take]; rfl)) ?_; (with_reducible refine (impl_OpLen.calls kj43 t207 t226 _ A68.out).mono ?_); rintro e w' ⟨rfl, ⟨nd, rfl⟩⟩; refine ⟨_, rfl, ?_⟩) | (go_at_call 61; (with_reducible refine (impl_OpLen.calls kj43 t207 t226 _ A70.out).mono ?_); rintro e w' ⟨rfl, ⟨nd, rfl⟩⟩) | (go_at_call 63; (with_reducible refine (impl_OpCycles.calls kj43 t207 t228 _ A72.out).mono ?_); rintro e w' ⟨rfl, ⟨nd, rfl⟩⟩) | (go_at_call 63; (with_reducible refine (impl_OpCycles.calls kj43 t207 t228 _ A74.out).mono ?_); rintro e w' ⟨rfl, ⟨nd, rfl⟩⟩) | (go_at_call 65; (with_reducible refine (impl_OpAccess.calls kj43 t207 t230 _ A76.out).mono ?_); rintro e w' ⟨rfl, ⟨nd, rfl⟩⟩))
                          go_ret
                          exact ⟨by first | rfl | (simp [errW_none, errW_some] <;> rfl) | (simp [*, errW_none, errW_some] <;> rfl), by repeat (first | (with_reducible first | exact HB.out | apply below_alloc | apply pw_below_drewN | apply below_drew1) | exact HB.out)⟩
                        · rw [if_neg c77] at H
                          have c77b0 : (t230 == 0) = false := beq_eq_false_iff_ne.mpr c77
                          have c77b1 : (t230 != 0) = true := bne_iff_ne.mpr c77
                          replace H := Option.bind_eq_some_iff.mp H
                          obtain ⟨t231, A780, H⟩ := H
                          have e_ := Option.some.inj (A68.out.symm.trans A780)
                          subst e_
                          replace H : (some (t226 == 3)) = some r := H
                          have A78 := Aside0.mk A780
                          clear A780
                          clear hrt
                          obtain rfl := Option.some.inj H
                          go_wp2_with (first | ((with_reducible refine gate_callee (f := 61) rfl ?_); refine goesL_ (some 67) rfl rfl Try.func61 (by kernel_rfl) rfl #[.int .i64 t207] rfl (by (try simp only [List.map_toArray, List.map_cons, List.map_nil]); first | done | rfl | (simp only [List.length_drop, List.length_take]; rfl)) ?_; (with_reducible refine (impl_OpLen.calls kj43 t207 t226 _ A68.out).mono ?_); rintro e w' ⟨rfl, ⟨nd, rfl⟩⟩; refine ⟨_, rfl, ?_⟩) | (go_at_call 61; (with_reducible refine (impl_OpLen.calls kj43 t207 t226 _ A70.out).mono ?_); rintro e w' ⟨rfl, ⟨nd, rfl⟩⟩) | (go_at_call 63; (with_reducible refine (impl_OpCycles.calls kj43 t207 t228 _ A72.out).mono ?_); rintro e w' ⟨rfl, ⟨nd, rfl⟩⟩) | (go_at_call 63; (with_reducible refine (impl_OpCycles.calls kj43 t207 t228 _ A74.out).mono ?_); rintro e w' ⟨rfl, ⟨nd, rfl⟩⟩) | (go_at_call 65; (with_reducible refine (impl_OpAccess.calls kj43 t207 t230 _ A76.out).mono ?_); rintro e w' ⟨rfl, ⟨nd, rfl⟩⟩) | (go_at_call 61; (with_reducible refine (impl_OpLen.calls kj43 t207 t226 _ A78.out).mono ?_); rintro e w' ⟨rfl, ⟨nd, rfl⟩⟩))
                          go_ret
                          exact ⟨by first | rfl | (simp [errW_none, errW_some] <;> rfl) | (simp [*, errW_none, errW_some] <;> rfl), by repeat (first | (with_reducible first | exact HB.out | apply below_alloc | apply pw_below_drewN | apply below_drew1) | exact HB.out)⟩
                      · rw [if_neg c75] at H
                        have c75b0 : decide (t228 ≤ 6) = false := decide_eq_false c75
                        clear c75
                        exact absurd ((Option.some.inj H).trans hrt) (by decide)
                    · rw [if_neg c73] at H
                      have c73b0 : decide (2 ≤ t228) = false := decide_eq_false c73
                      clear c73
                      exact absurd ((Option.some.inj H).trans hrt) (by decide)
                  · rw [if_neg c71] at H
                    have c71b0 : decide (t226 ≤ 3) = false := decide_eq_false c71
                    clear c71
                    exact absurd ((Option.some.inj H).trans hrt) (by decide)
                · rw [if_neg c69] at H
                  have c69b0 : decide (1 ≤ t226) = false := decide_eq_false c69
                  clear c69
                  exact absurd ((Option.some.inj H).trans hrt) (by decide)

end Go.Proofs.Ytcdfkemhigmnlaa.MFnOps
