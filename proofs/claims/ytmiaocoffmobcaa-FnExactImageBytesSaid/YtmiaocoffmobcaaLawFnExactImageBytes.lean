/- The row of the law FnExactImageBytes: whatever the arguments, the law answers true, and each argument reads behind the call as it did. No condition. -/
import Derived.Test.YtmiaocoffmobcaaRows
import Derived.Test.YtmiaocoffmobcaaPureFnExactImageBytes
import Derived.Test.YtmiaocoffmobcaaOpen
import Derived.Test.YtmiaocoffmobcaaWSized
import Derived.WalkKit
import Derived.ProofKit
import Derived.OpenShut
import Derived.ShutString
import Derived.ChangeOld
import Derived.Below
import Derived.SizedLaws
import Derived.Carry
namespace Go.Proofs.Ytmiaocoffmobcaa.fnExactImageBytes
open Go.ChangeShapes Go.WideShapes Go.ChangeAt Go.RowKit Go.Proofs.YtmiaocoffmobcaaW.PrintWords
open Go.ChangeMaps (open_string shut_string)
set_option linter.unusedVariables false
theorem own : ownKnob Try.prog.godebug = none := by kernel_rfl
theorem laidOut : laidOutB Try.prog = true := by kernel_rfl
set_option maxRecDepth 100000 in
theorem lifted (os : Os) (started : os.Started) (H : Type) (enc : TypeId × Value → H) :
    ReturnsInHanded {} Try.checked os 8 .any (Rows.fnExactImageBytesSpec.pre6 enc Try.prog Try.f8 Rows.fnExactImageBytesRow.domain false) (Rows.fnExactImageBytesSpec.post enc Try.prog Try.f8 false true false false) := by
  refine returnsInHanded_of_change_sized (C := Try.checked) own started (by kernel_rfl) Try.func8
    (ChangeSpec.witness6 (enc := enc) (C := Try.checked) false ⟨#[], #[.agg #[.slice none 0 0]], []⟩ 8 (by kernel_rfl) (by kernel_rfl) (by kernel_rfl) (by kernel_rfl)) ?_
  intro W base args ds gs before hval0 hW hcnd hsz0 _
  have hval : ∀ (j : Nat) t v, Try.f8.params[j]? = some t → args[j]? = some v → Value.okWide Try.prog W .any base t v := hval0
  have hW' := hW
  obtain ⟨p, q, hA0, hV, rfl, hfz, hnd⟩ := hW
  have hA : DataW.TrodAll enc Try.prog W 0 (fun _ => true) true Try.f8.params.toList args.toList ds p := hA0
  rw [Try.params8] at hA hval
  obtain ⟨v0, vs0, d0, ds0, p0, q0, hargs, rfl, rfl, h0, r0⟩ := trodAll_cons hA
  obtain ⟨rfl, rfl, rfl⟩ := trodAll_nil r0
  obtain rfl : args = #[v0] := by cases args; simp_all
  obtain ⟨rfl, rfl⟩ := trodVars_none hV
  have k0 := h0
  have lt0 : ∀ x ∈ p0, x.block < W.heap.size := by obtain ⟨m, hm⟩ := k0; exact DataW.trod_lt m _ _ _ hm
  obtain ⟨u0_0, y0_0, n0, rfl, -, -, t0_0⟩ := Open.open_agg1 Try.underlying24 (by kernel_rfl) (by kernel_rfl) (hval 0 24 v0 rfl rfl) h0
  obtain ⟨A0_0, l0_0, c0_0, rfl, hc0_0, hr0_0, w0_0, x0_0, -⟩ := Open.rows_of Try.underlying22 Try.underlying31 Try.underlying3 (by kernel_rfl) (by kernel_rfl) t0_0
  clear hA0 hval0 hsz0
  obtain ⟨k, hp⟩ := Pure.FnExactImageBytes l0_0 ⟨w0_0, x0_0⟩
  refine (MFnExactImageBytes.laws_FnExactImageBytes.calls k A0_0 c0_0 l0_0 true W hr0_0 hc0_0 hp rfl).mono ?_
  rintro e W' ⟨rfl, bel⟩
  exact ⟨_, rfl, _, _, _, [], _, [], hW', trodAll_mk1 (shut_bool Try.underlying4 _), (trodAll_cons_mk (Below.trod laidOut (by kernel_rfl) (of_decide_eq_true (by kernel_rfl)) k0 bel lt0) trodAll_mk0), rfl, bel.frame _, fun h => by cases h⟩
theorem over : Rows.fnExactImageBytesRow.holds Try.pinned (OpenSpec.ofChange Rows.fnExactImageBytesSpec) :=
  OpenClaim.holds_of_wide 8 Try.f8 rfl rfl rfl rfl rfl rfl rfl ⟨rfl, rfl, rfl, rfl, rfl⟩ rfl rfl rfl rfl rfl (by kernel_rfl) Try.func8 (by kernel_rfl)
    (of_decide_eq_true (by kernel_rfl)) (by unfold Func.isWrapper; first | (rw [if_pos (by decide +kernel)]; kernel_rfl) | (rw [if_neg (by decide +kernel)]; exact ⟨rfl, rfl⟩))
    (fun os started H enc _ => lifted os started H enc)
theorem proved : Rows.FnExactImageBytesSaid := over
#print axioms proved
end Go.Proofs.Ytmiaocoffmobcaa.fnExactImageBytes
namespace Go.Proofs.Ytmiaocoffmobcaa
/-- The row, under a short name, for the claim. -/
theorem fnExactImageBytes_holds : Rows.FnExactImageBytesSaid := fnExactImageBytes.proved
end Go.Proofs.Ytmiaocoffmobcaa
