/- The program's OpAccess is the reference's, for every whole number. No condition. -/
import Derived.Test.YtcbjooahibllpaaPFnExactOpAccessx1
import Derived.Test.YtcbjooahibllpaaBase
namespace Go.Proofs.Ytcbjooahibllpaa.Pure
open Go.RowKit Go.Proofs.Ytcbjooahibllpaa.PFnExactOpAccess Go.Proofs.YtcbjooahibllpaaW.PrintWords Go.Proofs.YtcbjooahibllpaaW.PrintLast Go.Proofs.Ytcbjooahibllpaa.Base

theorem FnExactOpAccess : laws_FnExactOpAccess.Pure := by
  intro a0 _
  refine ⟨1, ?_⟩
  have e : spec_OpAccess.f 1 a0 = impl_OpAccess.f 1 a0 := by
    simp [spec_OpAccess.f, impl_OpAccess.f, spec_OpAccess.j0, impl_OpAccess.j0]
  have h : ∃ r, impl_OpAccess.f 1 a0 = some r := by
    simp only [impl_OpAccess.f, impl_OpAccess.j0]
    repeat' split
    all_goals exact ⟨_, rfl⟩
  obtain ⟨r, h⟩ := h
  simp [laws_FnExactOpAccess.f, e, h]

end Go.Proofs.Ytcbjooahibllpaa.Pure
