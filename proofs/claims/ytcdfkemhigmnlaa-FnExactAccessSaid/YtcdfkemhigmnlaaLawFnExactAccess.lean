/- The row of the law FnExactAccess: whatever the arguments, the law answers true, and each argument reads behind the call as it did. No condition. -/
import Derived.Test.YtcdfkemhigmnlaaRows
import Derived.Test.YtcdfkemhigmnlaaPureFnExactAccess
import Derived.Test.YtcdfkemhigmnlaaOpen
import Derived.Test.YtcdfkemhigmnlaaWSized
import Derived.WalkKit
import Derived.ProofKit
import Derived.OpenShut
import Derived.ShutString
import Derived.ChangeOld
import Derived.Below
import Derived.SizedLaws
import Derived.Carry
namespace Go.Proofs.Ytcdfkemhigmnlaa.fnExactAccess
open Go.ChangeShapes Go.WideShapes Go.ChangeAt Go.RowKit Go.Proofs.YtcdfkemhigmnlaaW.PrintWords
open Go.ChangeMaps (open_string shut_string)
set_option linter.unusedVariables false
theorem own : ownKnob Try.prog.godebug = none := by kernel_rfl
theorem laidOut : laidOutB Try.prog = true := by kernel_rfl
set_option maxRecDepth 100000 in
theorem lifted (os : Os) (started : os.Started) (H : Type) (enc : TypeId × Value → H) :
    ReturnsInHanded {} Try.checked os 10 .any (Rows.fnExactAccessSpec.pre6 enc Try.prog Try.f10 Rows.fnExactAccessRow.domain false) (Rows.fnExactAccessSpec.post enc Try.prog Try.f10 false true false false) := by
  refine returnsInHanded_of_change_sized (C := Try.checked) own started (by kernel_rfl) Try.func10
    (ChangeSpec.witness6 (enc := enc) (C := Try.checked) false ⟨#[], #[.agg #[.int .i64 0, .int .i64 0], .agg #[.int .i64 0, .int .i64 0, .int .i64 0, .int .i64 0, .bool false, .bool false, .bool false, .bool false]], []⟩ 8 (by kernel_rfl) (by kernel_rfl) (by kernel_rfl) (by kernel_rfl)) ?_
  intro W base args ds gs before hval0 hW hcnd hsz0 _
  have hval : ∀ (j : Nat) t v, Try.f10.params[j]? = some t → args[j]? = some v → Value.okWide Try.prog W .any base t v := hval0
  have hW' := hW
  obtain ⟨p, q, hA0, hV, rfl, hfz, hnd⟩ := hW
  have hA : DataW.TrodAll enc Try.prog W 0 (fun _ => true) true Try.f10.params.toList args.toList ds p := hA0
  rw [Try.params10] at hA hval
  obtain ⟨v0, vs0, d0, ds0, p0, q0, hargs, rfl, rfl, h0, r0⟩ := trodAll_cons hA
  obtain ⟨v1, vs1, d1, ds1, p1, q1, rfl, rfl, rfl, h1, r1⟩ := trodAll_cons r0
  obtain ⟨rfl, rfl, rfl⟩ := trodAll_nil r1
  obtain rfl : args = #[v0, v1] := by cases args; simp_all
  obtain ⟨rfl, rfl⟩ := trodVars_none hV
  have k0 := h0
  have lt0 : ∀ x ∈ p0, x.block < W.heap.size := by obtain ⟨m, hm⟩ := k0; exact DataW.trod_lt m _ _ _ hm
  obtain ⟨u0_0, u0_1, y0_0, y0_1, n0, rfl, -, -, t0_0, t0_1⟩ := Go.Joins.open_agg2 Try.underlying43 (by kernel_rfl) (by kernel_rfl) (hval 0 43 v0 rfl rfl) h0
  obtain ⟨a0_0, rfl, w0_0⟩ := Open.int_of Try.underlying3 t0_0
  obtain ⟨a0_1, rfl, w0_1⟩ := Open.int_of Try.underlying3 t0_1
  have k1 := h1
  have lt1 : ∀ x ∈ p1, x.block < W.heap.size := by obtain ⟨m, hm⟩ := k1; exact DataW.trod_lt m _ _ _ hm
  obtain ⟨u1_0, u1_1, u1_2, u1_3, u1_4, u1_5, u1_6, u1_7, y1_0, y1_1, y1_2, y1_3, y1_4, y1_5, y1_6, y1_7, n1, rfl, t1_0, t1_1, t1_2, t1_3, t1_4, t1_5, t1_6, t1_7⟩ := Open.open_agg8 Try.underlying27 (by kernel_rfl) (by kernel_rfl) (hval 1 27 v1 rfl rfl) h1
  obtain ⟨a1_0, rfl, w1_0⟩ := Open.int_of Try.underlying3 t1_0
  obtain ⟨a1_1, rfl, w1_1⟩ := Open.int_of Try.underlying3 t1_1
  obtain ⟨a1_2, rfl, w1_2⟩ := Open.int_of Try.underlying3 t1_2
  obtain ⟨a1_3, rfl, w1_3⟩ := Open.int_of Try.underlying3 t1_3
  obtain ⟨a1_4, rfl⟩ := Open.bool_of Try.underlying4 t1_4
  obtain ⟨a1_5, rfl⟩ := Open.bool_of Try.underlying4 t1_5
  obtain ⟨a1_6, rfl⟩ := Open.bool_of Try.underlying4 t1_6
  obtain ⟨a1_7, rfl⟩ := Open.bool_of Try.underlying4 t1_7
  clear hA0 hval0 hsz0
  obtain ⟨k, hp⟩ := Pure.FnExactAccess a0_0 a0_1 a1_0 a1_1 a1_2 a1_3 a1_4 a1_5 a1_6 a1_7 w0_0 w0_1 w1_0 w1_1 w1_2 w1_3
  refine (PFnExactAccess.laws_FnExactAccess.calls k a0_0 a0_1 a1_0 a1_1 a1_2 a1_3 a1_4 a1_5 a1_6 a1_7 true W  hp).mono ?_
  rintro e W' ⟨rfl, bel⟩
  exact ⟨_, rfl, _, _, _, [], _, [], hW', trodAll_mk1 (shut_bool Try.underlying4 _), (trodAll_cons_mk (Below.trod laidOut (by kernel_rfl) (of_decide_eq_true (by kernel_rfl)) k0 bel lt0) (trodAll_cons_mk (Below.trod laidOut (by kernel_rfl) (of_decide_eq_true (by kernel_rfl)) k1 bel lt1) trodAll_mk0)), rfl, bel.frame _, fun h => by cases h⟩
theorem over : Rows.fnExactAccessRow.holds Try.pinned (OpenSpec.ofChange Rows.fnExactAccessSpec) :=
  OpenClaim.holds_of_wide 10 Try.f10 rfl rfl rfl rfl rfl rfl rfl ⟨rfl, rfl, rfl, rfl, rfl⟩ rfl rfl rfl rfl rfl (by kernel_rfl) Try.func10 (by kernel_rfl)
    (of_decide_eq_true (by kernel_rfl)) (by unfold Func.isWrapper; first | (rw [if_pos (by decide +kernel)]; kernel_rfl) | (rw [if_neg (by decide +kernel)]; exact ⟨rfl, rfl⟩))
    (fun os started H enc _ => lifted os started H enc)
theorem proved : Rows.FnExactAccessSaid := over
#print axioms proved
end Go.Proofs.Ytcdfkemhigmnlaa.fnExactAccess
namespace Go.Proofs.Ytcdfkemhigmnlaa
/-- The row, under a short name, for the claim. -/
theorem fnExactAccess_holds : Rows.FnExactAccessSaid := fnExactAccess.proved
end Go.Proofs.Ytcdfkemhigmnlaa
