/- The row of the law FnExactCpuOk: whatever the arguments, the law answers true, and each argument reads behind the call as it did. No condition. -/
import Derived.Test.YtcbjooahibllpaaRows
import Derived.Test.YtcbjooahibllpaaPureFnExactCpuOk
import Derived.Test.YtcbjooahibllpaaOpen
import Derived.Test.YtcbjooahibllpaaWSized
import Derived.WalkKit
import Derived.ProofKit
import Derived.OpenShut
import Derived.ShutString
import Derived.ChangeOld
import Derived.Below
import Derived.SizedLaws
import Derived.Carry
namespace Go.Proofs.Ytcbjooahibllpaa.fnExactCpuOk
open Go.ChangeShapes Go.WideShapes Go.ChangeAt Go.RowKit Go.Proofs.YtcbjooahibllpaaW.PrintWords
open Go.ChangeMaps (open_string shut_string)
set_option linter.unusedVariables false
theorem own : ownKnob Try.prog.godebug = none := by kernel_rfl
theorem laidOut : laidOutB Try.prog = true := by kernel_rfl
set_option maxRecDepth 100000 in
theorem lifted (os : Os) (started : os.Started) (H : Type) (enc : TypeId × Value → H) :
    ReturnsInHanded {} Try.checked os 11 .any (Rows.fnExactCpuOkSpec.pre6 enc Try.prog Try.f11 Rows.fnExactCpuOkRow.domain false) (Rows.fnExactCpuOkSpec.post enc Try.prog Try.f11 false true false false) := by
  refine returnsInHanded_of_change_sized (C := Try.checked) own started (by kernel_rfl) Try.func11
    (ChangeSpec.witness6 (enc := enc) (C := Try.checked) false ⟨#[], #[.agg #[.int .i64 0, .int .i64 0, .int .i64 0, .int .i64 0, .bool false, .bool false, .bool false, .bool false]], []⟩ 8 (by kernel_rfl) (by kernel_rfl) (by kernel_rfl) (by kernel_rfl)) ?_
  intro W base args ds gs before hval0 hW hcnd hsz0 _
  have hval : ∀ (j : Nat) t v, Try.f11.params[j]? = some t → args[j]? = some v → Value.okWide Try.prog W .any base t v := hval0
  have hW' := hW
  obtain ⟨p, q, hA0, hV, rfl, hfz, hnd⟩ := hW
  have hA : DataW.TrodAll enc Try.prog W 0 (fun _ => true) true Try.f11.params.toList args.toList ds p := hA0
  rw [Try.params11] at hA hval
  obtain ⟨v0, vs0, d0, ds0, p0, q0, hargs, rfl, rfl, h0, r0⟩ := trodAll_cons hA
  obtain ⟨rfl, rfl, rfl⟩ := trodAll_nil r0
  obtain rfl : args = #[v0] := by cases args; simp_all
  obtain ⟨rfl, rfl⟩ := trodVars_none hV
  have k0 := h0
  have lt0 : ∀ x ∈ p0, x.block < W.heap.size := by obtain ⟨m, hm⟩ := k0; exact DataW.trod_lt m _ _ _ hm
  obtain ⟨u0_0, u0_1, u0_2, u0_3, u0_4, u0_5, u0_6, u0_7, y0_0, y0_1, y0_2, y0_3, y0_4, y0_5, y0_6, y0_7, n0, rfl, t0_0, t0_1, t0_2, t0_3, t0_4, t0_5, t0_6, t0_7⟩ := Open.open_agg8 Try.underlying30 (by kernel_rfl) (by kernel_rfl) (hval 0 30 v0 rfl rfl) h0
  obtain ⟨a0_0, rfl, w0_0⟩ := Open.int_of Try.underlying3 t0_0
  obtain ⟨a0_1, rfl, w0_1⟩ := Open.int_of Try.underlying3 t0_1
  obtain ⟨a0_2, rfl, w0_2⟩ := Open.int_of Try.underlying3 t0_2
  obtain ⟨a0_3, rfl, w0_3⟩ := Open.int_of Try.underlying3 t0_3
  obtain ⟨a0_4, rfl⟩ := Open.bool_of Try.underlying4 t0_4
  obtain ⟨a0_5, rfl⟩ := Open.bool_of Try.underlying4 t0_5
  obtain ⟨a0_6, rfl⟩ := Open.bool_of Try.underlying4 t0_6
  obtain ⟨a0_7, rfl⟩ := Open.bool_of Try.underlying4 t0_7
  clear hA0 hval0 hsz0
  have hp := Pure.FnExactCpuOk a0_0 a0_1 a0_2 a0_3 a0_4 a0_5 a0_6 a0_7 w0_0 w0_1 w0_2 w0_3
  refine (PFnExactCpuOk.laws_FnExactCpuOk.calls a0_0 a0_1 a0_2 a0_3 a0_4 a0_5 a0_6 a0_7 true W  hp).mono ?_
  rintro e W' ⟨rfl, bel⟩
  exact ⟨_, rfl, _, _, _, [], _, [], hW', trodAll_mk1 (shut_bool Try.underlying4 _), (trodAll_cons_mk (Below.trod laidOut (by kernel_rfl) (of_decide_eq_true (by kernel_rfl)) k0 bel lt0) trodAll_mk0), rfl, bel.frame _, fun h => by cases h⟩
theorem over : Rows.fnExactCpuOkRow.holds Try.pinned (OpenSpec.ofChange Rows.fnExactCpuOkSpec) :=
  OpenClaim.holds_of_wide 11 Try.f11 rfl rfl rfl rfl rfl rfl rfl ⟨rfl, rfl, rfl, rfl, rfl⟩ rfl rfl rfl rfl rfl (by kernel_rfl) Try.func11 (by kernel_rfl)
    (of_decide_eq_true (by kernel_rfl)) (by unfold Func.isWrapper; first | (rw [if_pos (by decide +kernel)]; kernel_rfl) | (rw [if_neg (by decide +kernel)]; exact ⟨rfl, rfl⟩))
    (fun os started H enc _ => lifted os started H enc)
theorem proved : Rows.FnExactCpuOkSaid := over
#print axioms proved
end Go.Proofs.Ytcbjooahibllpaa.fnExactCpuOk
namespace Go.Proofs.Ytcbjooahibllpaa
/-- The row, under a short name, for the claim. -/
theorem fnExactCpuOk_holds : Rows.FnExactCpuOkSaid := fnExactCpuOk.proved
end Go.Proofs.Ytcbjooahibllpaa
