/- The program's Region is the reference's, for every whole number. No condition. -/
import Derived.Test.YtcbjooahibllpaaPFnExactRegionx1
import Derived.Test.YtcbjooahibllpaaBase
namespace Go.Proofs.Ytcbjooahibllpaa.Pure
open Go.RowKit Go.Proofs.Ytcbjooahibllpaa.PFnExactRegion Go.Proofs.YtcbjooahibllpaaW.PrintWords Go.Proofs.YtcbjooahibllpaaW.PrintLast Go.Proofs.Ytcbjooahibllpaa.Base

theorem FnExactRegion : laws_FnExactRegion.Pure := by
  intro a0 _
  have e : spec_Region.f a0 = impl_Region.f a0 := by
    simp [spec_Region.f, impl_Region.f, spec_Addr.f, impl_Addr.f]
  have h : ∃ r, impl_Region.f a0 = some r := by
    simp only [impl_Region.f, impl_Addr.f, Option.bind_some]
    repeat' split
    all_goals exact ⟨_, rfl⟩
  obtain ⟨r, h⟩ := h
  simp [laws_FnExactRegion.f, e, h]

end Go.Proofs.Ytcbjooahibllpaa.Pure
