/- The row of the law FnExactExec: whatever the arguments, the law answers true, and each argument reads behind the call as it did. No condition. -/
import Derived.Test.YtmiaocoffmobcaaRows
import Derived.Test.YtmiaocoffmobcaaPureFnExactExec
import Derived.Test.YtmiaocoffmobcaaOpen
import Derived.Test.YtmiaocoffmobcaaWSized
import Derived.WalkKit
import Derived.ProofKit
import Derived.OpenShut
import Derived.ShutString
import Derived.ChangeOld
import Derived.Below
import Derived.SizedLaws
import Derived.Carry
namespace Go.Proofs.Ytmiaocoffmobcaa.fnExactExec
open Go.ChangeShapes Go.WideShapes Go.ChangeAt Go.RowKit Go.Proofs.YtmiaocoffmobcaaW.PrintWords
open Go.ChangeMaps (open_string shut_string)
set_option linter.unusedVariables false
theorem own : ownKnob Try.prog.godebug = none := by kernel_rfl
theorem laidOut : laidOutB Try.prog = true := by kernel_rfl
set_option maxRecDepth 100000 in
theorem lifted (os : Os) (started : os.Started) (H : Type) (enc : TypeId × Value → H) :
    ReturnsInHanded {} Try.checked os 14 .any (Rows.fnExactExecSpec.pre6 enc Try.prog Try.f14 Rows.fnExactExecRow.domain false) (Rows.fnExactExecSpec.post enc Try.prog Try.f14 false true false false) := by
  refine returnsInHanded_of_change_sized (C := Try.checked) own started (by kernel_rfl) Try.func14
    (ChangeSpec.witness6 (enc := enc) (C := Try.checked) false ⟨#[], #[.agg #[.slice none 0 0, .int .i64 0], .agg #[.int .i64 0, .int .i64 0, .int .i64 0, .int .i64 0, .bool false, .bool false, .bool false, .bool false], .agg #[.int .i64 0, .int .i64 0], .int .i64 0], []⟩ 8 (by kernel_rfl) (by kernel_rfl) (by kernel_rfl) (by kernel_rfl)) ?_
  intro W base args ds gs before hval0 hW hcnd hsz0 _
  have hval : ∀ (j : Nat) t v, Try.f14.params[j]? = some t → args[j]? = some v → Value.okWide Try.prog W .any base t v := hval0
  have hW' := hW
  obtain ⟨p, q, hA0, hV, rfl, hfz, hnd⟩ := hW
  have hA : DataW.TrodAll enc Try.prog W 0 (fun _ => true) true Try.f14.params.toList args.toList ds p := hA0
  rw [Try.params14] at hA hval
  obtain ⟨v0, vs0, d0, ds0, p0, q0, hargs, rfl, rfl, h0, r0⟩ := trodAll_cons hA
  obtain ⟨v1, vs1, d1, ds1, p1, q1, rfl, rfl, rfl, h1, r1⟩ := trodAll_cons r0
  obtain ⟨v2, vs2, d2, ds2, p2, q2, rfl, rfl, rfl, h2, r2⟩ := trodAll_cons r1
  obtain ⟨v3, vs3, d3, ds3, p3, q3, rfl, rfl, rfl, h3, r3⟩ := trodAll_cons r2
  obtain ⟨rfl, rfl, rfl⟩ := trodAll_nil r3
  obtain rfl : args = #[v0, v1, v2, v3] := by cases args; simp_all
  obtain ⟨rfl, rfl⟩ := trodVars_none hV
  have k0 := h0
  have lt0 : ∀ x ∈ p0, x.block < W.heap.size := by obtain ⟨m, hm⟩ := k0; exact DataW.trod_lt m _ _ _ hm
  obtain ⟨u0_0, u0_1, y0_0, y0_1, n0, rfl, -, -, t0_0, t0_1⟩ := Go.Joins.open_agg2 Try.underlying33 (by kernel_rfl) (by kernel_rfl) (hval 0 33 v0 rfl rfl) h0
  obtain ⟨A0_0, l0_0, c0_0, rfl, hc0_0, hr0_0, w0_0, -⟩ := Open.ints_of Try.underlying31 Try.underlying3 (by kernel_rfl) t0_0
  obtain ⟨a0_1, rfl, w0_1⟩ := Open.int_of Try.underlying3 t0_1
  have k1 := h1
  have lt1 : ∀ x ∈ p1, x.block < W.heap.size := by obtain ⟨m, hm⟩ := k1; exact DataW.trod_lt m _ _ _ hm
  obtain ⟨u1_0, u1_1, u1_2, u1_3, u1_4, u1_5, u1_6, u1_7, y1_0, y1_1, y1_2, y1_3, y1_4, y1_5, y1_6, y1_7, n1, rfl, t1_0, t1_1, t1_2, t1_3, t1_4, t1_5, t1_6, t1_7⟩ := Open.open_agg8 Try.underlying35 (by kernel_rfl) (by kernel_rfl) (hval 1 35 v1 rfl rfl) h1
  obtain ⟨a1_0, rfl, w1_0⟩ := Open.int_of Try.underlying3 t1_0
  obtain ⟨a1_1, rfl, w1_1⟩ := Open.int_of Try.underlying3 t1_1
  obtain ⟨a1_2, rfl, w1_2⟩ := Open.int_of Try.underlying3 t1_2
  obtain ⟨a1_3, rfl, w1_3⟩ := Open.int_of Try.underlying3 t1_3
  obtain ⟨a1_4, rfl⟩ := Open.bool_of Try.underlying4 t1_4
  obtain ⟨a1_5, rfl⟩ := Open.bool_of Try.underlying4 t1_5
  obtain ⟨a1_6, rfl⟩ := Open.bool_of Try.underlying4 t1_6
  obtain ⟨a1_7, rfl⟩ := Open.bool_of Try.underlying4 t1_7
  have k2 := h2
  have lt2 : ∀ x ∈ p2, x.block < W.heap.size := by obtain ⟨m, hm⟩ := k2; exact DataW.trod_lt m _ _ _ hm
  obtain ⟨u2_0, u2_1, y2_0, y2_1, n2, rfl, -, -, t2_0, t2_1⟩ := Go.Joins.open_agg2 Try.underlying73 (by kernel_rfl) (by kernel_rfl) (hval 2 73 v2 rfl rfl) h2
  obtain ⟨a2_0, rfl, w2_0⟩ := Open.int_of Try.underlying3 t2_0
  obtain ⟨a2_1, rfl, w2_1⟩ := Open.int_of Try.underlying3 t2_1
  obtain ⟨a3, rfl, rfl, rfl, w3⟩ := open_int Try.underlying3 (hval 3 3 v3 rfl rfl) h3
  clear hA0 hval0 hsz0
  obtain ⟨k, hp⟩ := Pure.FnExactExec l0_0 a0_1 a1_0 a1_1 a1_2 a1_3 a1_4 a1_5 a1_6 a1_7 a2_0 a2_1 a3 w0_0 w0_1 w1_0 w1_1 w1_2 w1_3 w2_0 w2_1 w3
  refine (MFnExactExec.laws_FnExactExec.calls k A0_0 c0_0 l0_0 a0_1 a1_0 a1_1 a1_2 a1_3 a1_4 a1_5 a1_6 a1_7 a2_0 a2_1 a3 true W hr0_0 hc0_0 hp rfl).mono ?_
  rintro e W' ⟨rfl, bel⟩
  exact ⟨_, rfl, _, _, _, [], _, [], hW', trodAll_mk1 (shut_bool Try.underlying4 _), (trodAll_cons_mk (Below.trod laidOut (by kernel_rfl) (of_decide_eq_true (by kernel_rfl)) k0 bel lt0) (trodAll_cons_mk (Below.trod laidOut (by kernel_rfl) (of_decide_eq_true (by kernel_rfl)) k1 bel lt1) (trodAll_cons_mk (Below.trod laidOut (by kernel_rfl) (of_decide_eq_true (by kernel_rfl)) k2 bel lt2) (trodAll_cons_mk (shut_int Try.underlying3 w3) trodAll_mk0)))), rfl, bel.frame _, fun h => by cases h⟩
theorem over : Rows.fnExactExecRow.holds Try.pinned (OpenSpec.ofChange Rows.fnExactExecSpec) :=
  OpenClaim.holds_of_wide 14 Try.f14 rfl rfl rfl rfl rfl rfl rfl ⟨rfl, rfl, rfl, rfl, rfl⟩ rfl rfl rfl rfl rfl (by kernel_rfl) Try.func14 (by kernel_rfl)
    (of_decide_eq_true (by kernel_rfl)) (by unfold Func.isWrapper; first | (rw [if_pos (by decide +kernel)]; kernel_rfl) | (rw [if_neg (by decide +kernel)]; exact ⟨rfl, rfl⟩))
    (fun os started H enc _ => lifted os started H enc)
theorem proved : Rows.FnExactExecSaid := over
#print axioms proved
end Go.Proofs.Ytmiaocoffmobcaa.fnExactExec
namespace Go.Proofs.Ytmiaocoffmobcaa
/-- The row, under a short name, for the claim. -/
theorem fnExactExec_holds : Rows.FnExactExecSaid := fnExactExec.proved
end Go.Proofs.Ytmiaocoffmobcaa
