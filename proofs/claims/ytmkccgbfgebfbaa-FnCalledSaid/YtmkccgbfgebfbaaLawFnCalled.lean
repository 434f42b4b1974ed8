/- The row of the law FnCalled: whatever the arguments, the law answers true, and each argument reads behind the call as it did. No condition. -/
import Derived.Test.YtmkccgbfgebfbaaRows
import Derived.Test.YtmkccgbfgebfbaaPureFnCalled
import Derived.Test.YtmkccgbfgebfbaaVOpenFnCalled
import Derived.Test.YtmkccgbfgebfbaaVFnCalled
import Derived.WalkKit
import Derived.ProofKit
import Derived.OpenShut
import Derived.ShutString
import Derived.ChangeOld
import Derived.Below
import Derived.SizedLaws
import Derived.Carry
namespace Go.Proofs.Ytmkccgbfgebfbaa.fnCalled
open Go.ChangeShapes Go.WideShapes Go.ChangeAt Go.RowKit Go.Proofs.YtmkccgbfgebfbaaW.PrintWords
open Go.ChangeMaps (open_string shut_string)
set_option linter.unusedVariables false
theorem own : ownKnob Try.prog.godebug = none := by kernel_rfl
theorem laidOut : laidOutB Try.prog = true := by kernel_rfl
set_option maxRecDepth 100000 in
theorem lifted (os : Os) (started : os.Started) (H : Type) (enc : TypeId × Value → H) :
    ReturnsInHanded {} Try.checked os 7 .any (Rows.fnCalledSpec.pre6 enc Try.prog Try.f7 Rows.fnCalledRow.domain false) (Rows.fnCalledSpec.post enc Try.prog Try.f7 false true false false) := by
  refine returnsInHanded_of_change_sized (C := Try.checked) own started (by kernel_rfl) Try.func7
    (ChangeSpec.witness6 (enc := enc) (C := Try.checked) false ⟨#[], #[.slice none 0 0], []⟩ 8 (by kernel_rfl) (by kernel_rfl) (by kernel_rfl) (by kernel_rfl)) ?_
  intro W base args ds gs before hval0 hW hcnd hsz0 _
  have hval : ∀ (j : Nat) t v, Try.f7.params[j]? = some t → args[j]? = some v → Value.okWide Try.prog W .any base t v := hval0
  have hW' := hW
  obtain ⟨p, q, hA0, hV, rfl, hfz, hnd⟩ := hW
  have hA : DataW.TrodAll enc Try.prog W 0 (fun _ => true) true Try.f7.params.toList args.toList ds p := hA0
  rw [Try.params7] at hA hval
  obtain ⟨v0, vs0, d0, ds0, p0, q0, hargs, rfl, rfl, h0, r0⟩ := trodAll_cons hA
  obtain ⟨rfl, rfl, rfl⟩ := trodAll_nil r0
  obtain rfl : args = #[v0] := by cases args; simp_all
  obtain ⟨rfl, rfl⟩ := trodVars_none hV
  have k0 := h0
  have lt0 : ∀ x ∈ p0, x.block < W.heap.size := by obtain ⟨m, hm⟩ := k0; exact DataW.trod_lt m _ _ _ hm
  obtain ⟨b0, e0, g0, rfl⟩ := okWide_slice Try.underlying22 (hval 0 22 v0 rfl rfl)
  obtain ⟨n0, t0⟩ := h0
  replace t0 : DataW.trod enc Try.prog W 0 (fun _ => true) true n0 22 [.slice b0 e0 g0] = some (d0, p0) := t0
  obtain ⟨A0, l0, c0, he0, hc0, hr0, w0, z0⟩ := Open.ints_of Try.underlying22 Try.underlying5 (by kernel_rfl) t0
  injection he0 with e1 e2 e3
  subst e1 e2 e3
  clear hA0 hval0 hsz0
  obtain ⟨k, hp⟩ := Pure.FnCalled l0 w0 z0
  refine (MFnCalled.laws_FnCalled.calls k _ _ l0 true W hr0 hc0 hp rfl).mono ?_
  rintro e W' ⟨rfl, bel⟩
  exact ⟨_, rfl, _, _, _, [], _, [], hW', trodAll_mk1 (shut_bool Try.underlying4 _), (trodAll_cons_mk (Below.trod laidOut (by kernel_rfl) (of_decide_eq_true (by kernel_rfl)) k0 bel lt0) trodAll_mk0), rfl, bel.frame _, fun h => by cases h⟩
theorem over : Rows.fnCalledRow.holds Try.pinned (OpenSpec.ofChange Rows.fnCalledSpec) :=
  OpenClaim.holds_of_wide 7 Try.f7 rfl rfl rfl rfl rfl rfl rfl ⟨rfl, rfl, rfl, rfl, rfl⟩ rfl rfl rfl rfl rfl (by kernel_rfl) Try.func7 (by kernel_rfl)
    (of_decide_eq_true (by kernel_rfl)) (by unfold Func.isWrapper; first | (rw [if_pos (by decide +kernel)]; kernel_rfl) | (rw [if_neg (by decide +kernel)]; exact ⟨rfl, rfl⟩))
    (fun os started H enc _ => lifted os started H enc)
theorem proved : Rows.FnCalledSaid := over
#print axioms proved
end Go.Proofs.Ytmkccgbfgebfbaa.fnCalled
namespace Go.Proofs.Ytmkccgbfgebfbaa
/-- The row, under a short name, for the claim. -/
theorem fnCalled_holds : Rows.FnCalledSaid := fnCalled.proved
end Go.Proofs.Ytmkccgbfgebfbaa
